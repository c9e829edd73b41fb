/- AssignClashes: the statement. No condition. -/
import Derived.Test.YtjjaehpkccejaaaHA28zpr11
import Derived.Test.YtjjaehpkccejaaaHA28zpr10
import Derived.Test.YtjjaehpkccejaaaG35
import Derived.Test.YtjjaehpkccejaaaG34
import Derived.Test.YtjjaehpkccejaaaG33
import Derived.Test.YtjjaehpkccejaaaG31
import Derived.Test.YtjjaehpkccejaaaG32
import Derived.Test.YtjjaehpkccejaaaHA28zpr08
import Derived.Test.YtjjaehpkccejaaaG20
import Derived.Test.YtjjaehpkccejaaaG27
import Derived.Test.YtjjaehpkccejaaaG29
import Derived.Test.YtjjaehpkccejaaaG36
import Derived.Test.YtjjaehpkccejaaaG26
import Derived.Test.YtjjaehpkccejaaaG06
import Derived.Test.YtjjaehpkccejaaaHA28zpr01
import Derived.Laws.Pointers
import Derived.Test.YtjjaehpkccejaaaG30
import Derived.Test.YtjjaehpkccejaaaHA28zpr07
import Derived.Test.YtjjaehpkccejaaaG15
import Derived.Test.YtjjaehpkccejaaaG25
import Derived.WideKeyMaps
import Derived.MapKept
import Derived.Carry
import Derived.Test.YtjjaehpkccejaaaG05
import Derived.Test.YtjjaehpkccejaaaG28
import Derived.Test.YtjjaehpkccejaaaG19
import Derived.Test.YtjjaehpkccejaaaHA28zpr03
import Derived.Test.YtjjaehpkccejaaaHA28zpr09
import Derived.Test.YtjjaehpkccejaaaG10
import Derived.Test.YtjjaehpkccejaaaG07
import Derived.Test.YtjjaehpkccejaaaG17
import Derived.Test.YtjjaehpkccejaaaG21
import Derived.Test.YtjjaehpkccejaaaHA28zpr04
import Derived.Test.YtjjaehpkccejaaaG22
import Derived.Test.YtjjaehpkccejaaaHA28zpr05
import Derived.Test.YtjjaehpkccejaaaG18
import Derived.Test.YtjjaehpkccejaaaG14
import Derived.Test.YtjjaehpkccejaaaG09
import Derived.Test.YtjjaehpkccejaaaG08
import Derived.Test.YtjjaehpkccejaaaG04
import Derived.Great.BuildSlice
import Derived.Test.YtjjaehpkccejaaaG03
import Derived.Scope
import Derived.Laws.StructEq
import Derived.Test.YtjjaehpkccejaaaProg
import Derived.Test.YtjjaehpkccejaaaG01
import Derived.Shelf.Abstract
import Derived.Test.YtjjaehpkccejaaaG13
import Derived.Test.YtjjaehpkccejaaaHA28zpr02
import Derived.DeepKeys4
import Derived.Test.YtjjaehpkccejaaaG02
import Derived.RangeFuncLeaves
import Derived.RangeFuncRecord
import Derived.Lib.Hide
import Derived.Deep.QuietTactic
import Derived.BigQuiet
import Derived.Deep.DrawnRows
import Derived.Deep.AppendLies
import Derived.Laws.Cover3
import Derived.WalkKit
import Derived.Maps.AppendAt
import Derived.OwnWalk
import Derived.RangeFuncNested
import Derived.Test.YtjjaehpkccejaaaG24
import Derived.Test.YtjjaehpkccejaaaG16
import Derived.OrdersIn
import Derived.TacticsIn
import Derived.RangeFuncCalls
import Derived.StillTail
import Derived.Below
import Derived.Deep.Draws
import Derived.KernelRfl
import Derived.Test.YtjjaehpkccejaaaG12
import Derived.Test.YtjjaehpkccejaaaG11
import Derived.Test.YtjjaehpkccejaaaRows
import Derived.Test.YtjjaehpkccejaaaG23
import Derived.Test.YtjjaehpkccejaaaHA28zpr06
import Derived.ProofKit
import Derived.OpenShut
import Derived.Deep.DeepHandedRow
import Derived.SizedLaws
import Derived.ChangeSlices
import Derived.ChangeSame
set_option linter.unusedSimpArgs false
set_option linter.unusedVariables false
section
namespace Go.Proofs.Ytjjaehpkccejaaa
open Go.RowKit Go.Flow Go.AV Go.Plain
theorem clfacts (x : Pb) (hx : x.ok) (L : List CV) (hL : LeL Cv L (pbC x)) (a b : Bp) (u v : Bg) : ∃ (r : Int) (s : Cl) (o : Bool) (r' : Int) (s' : Cl),
 ACalls Try.prog 19 [.ag L, .ag (bpC a), .ag (bpC b), .ag (bgC u), .ag (bgC v)] (.tu [.c (iC r), .ag (clC s), .c (bC o)]) ∧
 ACalls Try.prog 20 [.ag L, .ag (bpC a), .ag (bpC b), .ag (bgC u), .ag (bgC v)] (.tu [.c (iC r), .ag (clC s), .c (bC o)]) ∧
 ACalls Try.prog 19 [.ag L, .ag (bpC b), .ag (bpC a), .ag (bgC v), .ag (bgC u)] (.tu [.c (iC r'), .ag (clC s'), .c (bC o)]) := by
 have h3 := Clash_A x b a v u hx.lR hx.rd
 rw [clash_comm] at h3
 exact ⟨_, _, _, _, _, (Clash_A x a b u v hx.lR hx.rd).cv ⟨.ag hL, .ag (cvRefl _), .ag (cvRefl _), .ag (cvRefl _), .ag (cvRefl _), trivial⟩, (rClash_A x a b u v hx.lR hx.rd).cv ⟨.ag hL, .ag (cvRefl _), .ag (cvRefl _), .ag (cvRefl _), .ag (cvRefl _), trivial⟩, h3.cv ⟨.ag hL, .ag (cvRefl _), .ag (cvRefl _), .ag (cvRefl _), .ag (cvRefl _), trivial⟩⟩
abbrev clM (p x : Pb) : List Pb := [p, x, pbZ]
abbrev clU (X Y : Bg) (m1 m2 : Int) : List (Bg × Bg) := [(X, Y), (bgZ, bgZ), (⟨m1, 0, 0, 0⟩, ⟨0, m2, 1, 0⟩)]
abbrev uvC (w : Bg × Bg) : List CV := bgC w.1 ++ bgC w.2
set_option maxHeartbeats 8000000 in
set_option maxRecDepth 100000 in
theorem AssignClashes_A (ll : List (List Int)) (hll : LlOk ll) (q0 q1 q2 : Int) (hq1 : -9223372036854775808 ≤ q1 ∧ q1 ≤ 9223372036854775807) (NA : Nat) (fA : Nat → Int) (NB : Nat) (fB : Nat → Int) (X Y : Bg) (hA : NA ≤ 4611686018427387904) (hB : NB ≤ 4611686018427387904) :
 ACalls Try.prog 4 [.c (lsL ll), .ag [iC q0, iC q1, iC q2], .ag ([.ls NA 1 (iF fA), .ls NB 1 (iF fB)] ++ bgC X ++ bgC Y)] (.c (bC true)) := by
 have hM := Made28_A ll hll
 obtain ⟨sm, -⟩ := made_sm ll
 have hSan := sanity28_A
 generalize made28 ll = p at *
 obtain ⟨x, hx, hO⟩ := Odd28_A 200 p (sm_bd sm) (by decide) (by decide) q0 q1 q2 hq1
 have hPr := Pair_A NA fA NB fB hA hB
 generalize mdV NA fA = a at hPr
 generalize pairB NA fA NB fB = b at hPr
 have hM1 := Mod_A X.lo 6 (by omega) (by omega)
 have hM2 := Mod_A Y.bl 6 (by omega) (by omega)
 generalize X.lo % 6 = m1 at hM1
 generalize Y.bl % 6 = m2 at hM2
 refine acalls_at Try.func4 rfl rfl Try.ntmps4 rfl ?_
 repeat (first
  | refine AWp.seq ?_
  | refine thenA_n ?_
  | refine AWp.block ?_
  | refine AWp.skip ?_
  | refine AWp.exit ?_
  | refine AWp.ret ?_
  | refine thenA_e ?_
  | refine thenA_r ?_
  | refine inBlk_n ?_
  | refine inBlk_r ?_
  | refine inBlk_hit ?_
  | refine inBlk_miss rfl ?_
  | refine AWp.condT rfl cnT ?_
  | refine AWp.condF rfl cnF ?_
  | refine AWp.scope (fun _ _ h => h) ?_
  | refine AWp.label ?_
  | (refine rG 0 ?_
     (iterate 2 refine qr5 aQ ?_)
     refine kC ?_
     refine aB ?_)
  | (refine rG 1 ?_
     refine aH rfl rfl rfl rfl Try.func9 rfl (by kernel_rfl) (hSan) ?_
     refine kC ?_
     refine aB ?_)
  | (refine rG 2 ?_
     first | refine kD ?_ | refine qr7 (AList.fieldPl tyOk) ?_
     first | refine kE ?_ | refine qr5o (aV tyOk) ?_
     first | refine kD ?_ | refine qr7 (AList.fieldPl tyOk) ?_
     first | refine kE ?_ | refine qr5o (aV tyOk) ?_
     refine aH rfl rfl rfl rfl Try.func17 rfl (by kernel_rfl) (hPr) ?_
     refine kA ?_
     (iterate 2 refine qr4 aN ?_)
     (iterate 2 refine qr5 (aM tyOk) ?_)
     (iterate 2 refine kI ?_)
     refine aB ?_)
  | (refine rG 3 ?_
     refine kA ?_
     refine aH rfl rfl rfl rfl Try.func10 rfl (by kernel_rfl) (hM) ?_
     refine qr5 (aM tyOk) ?_
     refine kI ?_
     refine aB ?_))
 refine AWp.draw mixed ?_
 first | refine kF ?_ | refine qr5o (aT tyOk) ?_
 first | refine kF ?_ | refine qr5o (aT tyOk) ?_
 first | refine kF ?_ | refine qr5o (aT tyOk) ?_
 refine aH rfl rfl rfl rfl Try.func11 rfl (by kernel_rfl) (hO) ?_
 first | refine qr8 (aX tyOk) ?_ | refine qr8 (AList.buildArr tyOk) ?_
 refine qr11 (AList.litOw tyOk) ?_
 first | refine qr5 (aO tyOk) ?_ | refine qr7 (AList.lenOw tyOk) ?_ | refine qr5 (AList.lenNil tyOk) ?_
 refine kA ?_
 refine aB ⟨by kernel_rfl, ?_⟩
 refine AWp.cvBox (id := 40) (rowF pbC pbZ (clM p x)) rfl rfl (fun k hk j hj => ?_) ?_
 ·match k, hk with
  | 0, _ => match j, hj with
    | 0, _ | 1, _ | 2, _ | 3, _ | 4, _ => exact Cv.refl _
  | 1, _ => match j, hj with
    | 0, _ | 1, _ | 2, _ | 3, _ | 4, _ => exact Cv.refl _
  | 2, _ => match j, hj with
    | 0, _ => exact Cv.nil
    | 1, _ => exact Cv.nil
    | 2, _ => exact Cv.nil
    | 3, _ => exact Cv.nil
    | 4, _ => exact Cv.nil
 repeat (first
  | refine AWp.seq ?_
  | refine thenA_n ?_
  | refine AWp.block ?_
  | refine AWp.skip ?_
  | refine AWp.exit ?_
  | refine AWp.ret ?_
  | refine thenA_e ?_
  | refine thenA_r ?_
  | refine inBlk_n ?_
  | refine inBlk_r ?_
  | refine inBlk_hit ?_
  | refine inBlk_miss rfl ?_
  | refine AWp.condT rfl cnT ?_
  | refine AWp.condF rfl cnF ?_
  | refine AWp.scope (fun _ _ h => h) ?_
  | refine AWp.label ?_)
 refine AWp.round (fun k : Nat => mkSt 126 [
  (5, .c (.pt 5 10 0 0)), (7, .c (bC true)), (8, .c (.pt 8 3 0 0)), (9, .c (.pt 9 3 0 0)), (40, .c (.ls 3 5 (rowF pbC pbZ (clM p x)))), (41, .c (iC 3)), (42, .c (iC (k : Nat)))
  ] [
  (5, ⟨false, 1, 10, 44, lF ([.ls NA 1 (iF fA), .ls NB 1 (iF fB)] ++ bgC X ++ bgC Y)⟩), (8, ⟨false, 1, 3, 47, lF (bpC a)⟩), (9, ⟨false, 1, 3, 47, lF (bpC b)⟩)
  ] [5, 8, 9])
  (fun k => k ≤ 3) (fun k => 3 - k) 0 (Nat.zero_le _) ?_ (fun k hk => ?_)
 ·refine Wk.mk [(5, some 5), (8, some 8), (9, some 9)] rfl rfl rfl ?_ ?_
  ·repeat (first | exact trivial | refine ⟨⟨_, rfl, by first | exact LeA.c (LeC.fz rfl rfl rfl (fun i _ j _ => ⟨rfl, rowF_imm (fun _ => rfl) _ i j⟩)) | exact leT⟩, ?_⟩)
  ·exact allH
 by_cases hk3 : k < 3
 rotate_left
 ·have hk3' : ¬ (k : Int) < 3 := by omega
  repeat (first
   | refine AWp.seq ?_
   | refine thenA_n ?_
   | refine AWp.block ?_
   | refine AWp.skip ?_
   | refine AWp.exit ?_
   | refine AWp.ret ?_
   | refine thenA_e ?_
   | refine thenA_r ?_
   | refine inBlk_n ?_
   | refine inBlk_r ?_
   | refine inBlk_hit ?_
   | refine inBlk_miss rfl ?_
   | refine AWp.condT rfl cnT ?_
   | refine AWp.condF rfl cnF ?_
   | refine AWp.scope (fun _ _ h => h) ?_
   | refine AWp.label ?_
   | (refine rG 5 ?_
      first | refine qr5t aK ?_ | refine qr5f aJ ?_ | refine qr5 aW ?_
      refine aB ?_)
   | (refine rG 17 ?_
      refine kA ?_
      refine kC ?_
      refine aB ?_))
  refine ⟨mkSt 126 [(6, .c (bC true))] [] [], [], Wk.mk [] rfl rfl rfl ?_ trivial, rfl, rfl, ARets.one (x := .c _) (ARes.tmp rfl rfl)⟩
  exact allT
 have hk3' : (k : Int) < 3 := by omega
 obtain ⟨y, hy, hyo⟩ : ∃ y, (clM p x).getD k pbZ = y ∧ y.ok := by
  match k, hk3 with
  | 0, _ => exact ⟨_, rfl, sm.ok⟩
  | 1, _ => exact ⟨_, rfl, hx.ok (by decide)⟩
  | 2, _ => exact ⟨_, rfl, pbZ_ok⟩
 have ey : cellsFrom (rowF pbC pbZ (clM p x) k) 0 5 = pbC y := by rw [← hy]; rfl
 have F := clfacts y hyo _ (cvRefl _)
 repeat (first
  | refine AWp.seq ?_
  | refine thenA_n ?_
  | refine AWp.block ?_
  | refine AWp.skip ?_
  | refine AWp.exit ?_
  | refine AWp.ret ?_
  | refine thenA_e ?_
  | refine thenA_r ?_
  | refine inBlk_n ?_
  | refine inBlk_r ?_
  | refine inBlk_hit ?_
  | refine inBlk_miss rfl ?_
  | refine AWp.condT rfl cnT ?_
  | refine AWp.condF rfl cnF ?_
  | refine AWp.scope (fun _ _ h => h) ?_
  | refine AWp.label ?_
  | (refine rG 5 ?_
     first | refine qr5t aK ?_ | refine qr5f aJ ?_ | refine qr5 aW ?_
     refine aB ?_))
 refine aY ?_
 first | refine qr8eo2 (aP (k := k) tyOk) ?_ | refine qr10eo (AList.idxOw (k := k) tyOk) ?_
 refine AList.loadAlE tyOk (ey) rfl rfl rfl rfl rfl oM ?_
 refine qr5 (aM tyOk) ?_
 refine kI ?_
 refine aB ?_
 repeat (first
  | refine AWp.seq ?_
  | refine thenA_n ?_
  | refine AWp.block ?_
  | refine AWp.skip ?_
  | refine AWp.exit ?_
  | refine AWp.ret ?_
  | refine thenA_e ?_
  | refine thenA_r ?_
  | refine inBlk_n ?_
  | refine inBlk_r ?_
  | refine inBlk_hit ?_
  | refine inBlk_miss rfl ?_
  | refine AWp.condT rfl cnT ?_
  | refine AWp.condF rfl cnF ?_
  | refine AWp.scope (fun _ _ h => h) ?_
  | refine AWp.label ?_
  | (refine AWp.draw (id := 7) mixed ?_; (first | refine kD ?_ | refine qr7 (AList.fieldPl tyOk) ?_); (first | refine kF ?_ | refine qr5o (aT tyOk) ?_); (first | refine kD ?_ | refine qr7 (AList.fieldPl tyOk) ?_); (first | refine kF ?_ | refine qr5o (aT tyOk) ?_); (first | refine qr8 (aX tyOk) ?_ | refine qr8 (AList.buildArr tyOk) ?_); (first | refine qr8 (aX tyOk) ?_ | refine qr8 (AList.buildArr tyOk) ?_); (first | refine kD ?_ | refine qr7 (AList.fieldPl tyOk) ?_); (first | refine kD ?_ | refine qr7 (AList.fieldPl tyOk) ?_); (first | refine kE ?_ | refine qr5o (aV tyOk) ?_); (first | refine aH rfl rfl rfl rfl Try.func18 rfl (by kernel_rfl) (hM1) ?_ | refine aH rfl rfl rfl rfl Try.func18 rfl (by kernel_rfl) (hM2) ?_); (first | refine qr8 (aX tyOk) ?_ | refine qr8 (AList.buildArr tyOk) ?_); (first | refine kD ?_ | refine qr7 (AList.fieldPl tyOk) ?_); (first | refine kD ?_ | refine qr7 (AList.fieldPl tyOk) ?_); (first | refine kE ?_ | refine qr5o (aV tyOk) ?_); (first | refine aH rfl rfl rfl rfl Try.func18 rfl (by kernel_rfl) (hM1) ?_ | refine aH rfl rfl rfl rfl Try.func18 rfl (by kernel_rfl) (hM2) ?_); (first | refine qr8 (aX tyOk) ?_ | refine qr8 (AList.buildArr tyOk) ?_); (first | refine qr8 (aX tyOk) ?_ | refine qr8 (AList.buildArr tyOk) ?_); refine qr11 (AList.litSl tyOk) ?_; (first | refine qr5 (aO tyOk) ?_ | refine qr7 (AList.lenOw tyOk) ?_ | refine qr5 (AList.lenNil tyOk) ?_); refine kA ?_; refine aB ⟨by kernel_rfl, ?_⟩))
 have hU : ∀ i, i < 3 → ∀ j, j < 8 → sF (bgC X ++ bgC Y ++ bgC bgZ ++ bgC bgZ ++ bgC ⟨m1, 0, 0, 0⟩ ++ bgC ⟨0, m2, 1, 0⟩) 8 i j = rowF uvC (bgZ, bgZ) (clU X Y m1 m2) i j := fun i hi j hj => by
  match i, hi with
  | 0, _ => match j, hj with
    | 0, _ | 1, _ | 2, _ | 3, _ | 4, _ | 5, _ | 6, _ | 7, _ => rfl
  | 1, _ => match j, hj with
    | 0, _ | 1, _ | 2, _ | 3, _ | 4, _ | 5, _ | 6, _ | 7, _ => rfl
  | 2, _ => match j, hj with
    | 0, _ | 1, _ | 2, _ | 3, _ | 4, _ | 5, _ | 6, _ | 7, _ => rfl
 refine AWp.round (fun j : Nat => mkSt 126 [
  (5, .c (.pt 5 10 0 0)), (7, .c (bC true)), (8, .c (.pt 8 3 0 0)), (9, .c (.pt 9 3 0 0)), (40, .c (.ls 3 5 (rowF pbC pbZ (clM p x)))), (41, .c (iC 3)), (42, .c (iC (k : Nat)))
  , (12, .c (.pt 12 5 0 0)), (63, .c (.ls 3 8 (rowF uvC (bgZ, bgZ) (clU X Y m1 m2)))), (64, .c (iC 3)), (65, .c (iC (j : Nat)))] [
  (5, ⟨false, 1, 10, 44, lF ([.ls NA 1 (iF fA), .ls NB 1 (iF fB)] ++ bgC X ++ bgC Y)⟩), (8, ⟨false, 1, 3, 47, lF (bpC a)⟩), (9, ⟨false, 1, 3, 47, lF (bpC b)⟩)
  , (12, ⟨false, 1, 5, 32, lF (pbC y)⟩)] [5, 8, 9, 12])
  (fun j => j ≤ 3) (fun j => 3 - j) 0 (Nat.zero_le _) ?_ (fun j hj => ?_)
 ·refine Wk.mk [(5, some 5), (8, some 8), (9, some 9), (12, some 12)] rfl rfl rfl ?_ ?_
  ·repeat (first | exact trivial | refine ⟨⟨_, rfl, by first | exact LeA.c (LeC.refl _ (rowF_imm (fun _ => rfl) _)) | exact LeA.c (LeC.lz rfl hU) | exact leT⟩, ?_⟩)
  ·exact allH
 by_cases hj3 : j < 3
 rotate_left
 ·have hj3' : ¬ (j : Int) < 3 := by omega
  repeat (first
   | refine AWp.seq ?_
   | refine thenA_n ?_
   | refine AWp.block ?_
   | refine AWp.skip ?_
   | refine AWp.exit ?_
   | refine AWp.ret ?_
   | refine thenA_e ?_
   | refine thenA_r ?_
   | refine inBlk_n ?_
   | refine inBlk_r ?_
   | refine inBlk_hit ?_
   | refine inBlk_miss rfl ?_
   | refine AWp.condT rfl cnT ?_
   | refine AWp.condF rfl cnF ?_
   | refine AWp.scope (fun _ _ h => h) ?_
   | refine AWp.label ?_
   | (refine rG 8 ?_
      first | refine qr5t aK ?_ | refine qr5f aJ ?_ | refine qr5 aW ?_
      refine aB ?_)
   | (refine rG 16 ?_
      refine qr4w2 aL ?_
      refine kA ?_
      refine aB ?_))
  refine ⟨k + 1, hk3, Wk.mk [(5, some 5), (8, some 8), (9, some 9)] rfl rfl rfl ?_ ?_, by omega⟩
  ·exact allT
  ·exact allH
 have hj3' : (j : Int) < 3 := by omega
 obtain ⟨w, hw⟩ : ∃ w, (clU X Y m1 m2).getD j (bgZ, bgZ) = w := ⟨_, rfl⟩
 have ew : cellsFrom (rowF uvC (bgZ, bgZ) (clU X Y m1 m2) j) 0 8 = bgC w.1 ++ bgC w.2 := by rw [← hw]; rfl
 obtain ⟨u, v⟩ := w
 obtain ⟨r, s, o, r', s', c1, c2, c3⟩ := F a b u v
 have hs : ∀ w, (Go.binOp .neq 54 (.agg #[.int .i64 s.dx, .int .i64 s.dy, .int .i64 s.col]) (.agg #[.int .i64 s.dx, .int .i64 s.dy, .int .i64 s.col])).run Try.prog w = .ok (.bool false) w := fun w => by rw [cl_ne, decide_eq_true rfl]; rfl
 cases o
 all_goals
  repeat (first
   | refine AWp.seq ?_
   | refine thenA_n ?_
   | refine AWp.block ?_
   | refine AWp.skip ?_
   | refine AWp.exit ?_
   | refine AWp.ret ?_
   | refine thenA_e ?_
   | refine thenA_r ?_
   | refine inBlk_n ?_
   | refine inBlk_r ?_
   | refine inBlk_hit ?_
   | refine inBlk_miss rfl ?_
   | refine AWp.condT rfl cnT ?_
   | refine AWp.condF rfl cnF ?_
   | refine AWp.scope (fun _ _ h => h) ?_
   | refine AWp.label ?_
   | (refine rG 8 ?_
      first | refine qr5t aK ?_ | refine qr5f aJ ?_ | refine qr5 aW ?_
      refine aB ?_)
   | (refine rG 9 ?_
      first | refine qr8eo2 (aP (k := j) tyOk) ?_ | refine qr10eo (AList.idxOw (k := j) tyOk) ?_
      refine AList.loadAlE tyOk (ew) rfl rfl rfl rfl rfl oM ?_
      refine qr5 (aM tyOk) ?_
      refine kI ?_
      refine aB ?_)
   | (refine rG 10 ?_
      first | refine kF ?_ | refine qr5o (aT tyOk) ?_
      first | refine kF ?_ | refine qr5o (aT tyOk) ?_
      first | refine kF ?_ | refine qr5o (aT tyOk) ?_
      first | refine qr8o (aU tyOk) ?_ | refine qr8o (AList.idxArrP tyOk) ?_ | refine qr8o (AList.idxArrL tyOk) ?_
      first | refine kF ?_ | refine qr5o (aT tyOk) ?_
      first | refine qr8o (aU tyOk) ?_ | refine qr8o (AList.idxArrP tyOk) ?_ | refine qr8o (AList.idxArrL tyOk) ?_
      first | refine kF ?_ | refine qr5o (aT tyOk) ?_
      first | refine aH rfl rfl rfl rfl Try.func19 rfl (by kernel_rfl) (c1) ?_ | refine aH rfl rfl rfl rfl Try.func19 rfl (by kernel_rfl) (c3) ?_
      refine kA ?_
      (iterate 3 refine qr4 aN ?_)
      refine qr5 (aM tyOk) ?_
      refine kC ?_
      refine kI ?_
      refine kC ?_
      refine aB ?_)
   | (refine rG 11 ?_
      first | refine kF ?_ | refine qr5o (aT tyOk) ?_
      first | refine kF ?_ | refine qr5o (aT tyOk) ?_
      first | refine kF ?_ | refine qr5o (aT tyOk) ?_
      first | refine qr8o (aU tyOk) ?_ | refine qr8o (AList.idxArrP tyOk) ?_ | refine qr8o (AList.idxArrL tyOk) ?_
      first | refine kF ?_ | refine qr5o (aT tyOk) ?_
      first | refine qr8o (aU tyOk) ?_ | refine qr8o (AList.idxArrP tyOk) ?_ | refine qr8o (AList.idxArrL tyOk) ?_
      first | refine kF ?_ | refine qr5o (aT tyOk) ?_
      refine aH rfl rfl rfl rfl Try.func20 rfl (by kernel_rfl) (c2) ?_
      refine kA ?_
      (iterate 3 refine qr4 aN ?_)
      refine qr5 (aM tyOk) ?_
      refine kC ?_
      refine kI ?_
      refine kC ?_
      refine aB ?_)
   | (refine rG 12 ?_
      first | refine kF ?_ | refine qr5o (aT tyOk) ?_
      first | refine kF ?_ | refine qr5o (aT tyOk) ?_
      first | refine kF ?_ | refine qr5o (aT tyOk) ?_
      first | refine qr8o (aU tyOk) ?_ | refine qr8o (AList.idxArrP tyOk) ?_ | refine qr8o (AList.idxArrL tyOk) ?_
      first | refine kF ?_ | refine qr5o (aT tyOk) ?_
      first | refine qr8o (aU tyOk) ?_ | refine qr8o (AList.idxArrP tyOk) ?_ | refine qr8o (AList.idxArrL tyOk) ?_
      first | refine kF ?_ | refine qr5o (aT tyOk) ?_
      first | refine aH rfl rfl rfl rfl Try.func19 rfl (by kernel_rfl) (c1) ?_ | refine aH rfl rfl rfl rfl Try.func19 rfl (by kernel_rfl) (c3) ?_
      refine kA ?_
      (iterate 3 refine qr4 aN ?_)
      refine qr5 (aM tyOk) ?_
      refine kC ?_
      refine kI ?_
      refine kC ?_
      refine aB ?_)
   | (refine rG 13 ?_
      (iterate 2 refine kA ?_)
      first | refine qr5t aK ?_ | refine qr5f aJ ?_ | refine aJ rfl rfl rfl rfl rfl (by simp only [cmpP, eq_self, decide_true, Bool.not_true]) ?_ | refine qr5 aW ?_
      refine kA ?_
      first | refine qr2 aG ?_ | refine kF ?_ | refine qr5o (aT tyOk) ?_
      first | refine qr2 aG ?_ | refine kF ?_ | refine qr5o (aT tyOk) ?_
      first | refine qr2 aG ?_ | refine AList.binAg rfl rfl rfl rfl rfl rfl (by kernel_rfl) (hs) ?_
      first | refine qr4 aS ?_ | refine qr4 aR ?_ | refine qr5 AList.pick ?_
      refine kA ?_
      first | refine qr2 aG ?_ | refine kA ?_
      first | refine qr2 aG ?_ | refine kA ?_
      first | refine qr2 aG ?_ | refine qr4k AList.neB ?_
      first | refine qr4 aS ?_ | refine qr4 aR ?_ | refine qr5 AList.pick ?_
      refine kA ?_
      first | refine qr2 aG ?_ | refine kA ?_
      first | refine qr2 aG ?_ | refine kA ?_
      first | refine qr2 aG ?_ | refine qr4k AList.neB ?_
      first | refine qr4 aS ?_ | refine qr4 aR ?_ | refine qr5 AList.pick ?_
      refine aB ?_)
   | (refine rG 15 ?_
      refine qr4w2 aL ?_
      refine kA ?_
      refine aB ?_))
  refine ⟨j + 1, hj3, Wk.mk [(5, some 5), (8, some 8), (9, some 9), (12, some 12)] rfl rfl rfl ?_ ?_, by omega⟩
  ·exact allT
  ·exact allH
end Go.Proofs.Ytjjaehpkccejaaa
end

section
namespace Go.Proofs.Ytjjaehpkccejaaa.assignClashes
open Go.ChangeShapes Go.WideShapes Go.ChangeAt Go.RowKit Go.Flow Go.AV
set_option maxRecDepth 100000 in
theorem contract (H : Type) (enc : TypeId × Value → H) (W : World) (base : Nat) (args : Array Value) (ds gs : List (DataW H)) (before : List MemPlace)
 (hval : ∀ (j : Nat) t v, Try.f4.params[j]? = some t → args[j]? = some v → Value.okWide Try.prog W .any base t v)
 (hW : DataW.Whole enc Try.prog Try.f4.params.toList Rows.assignClashesSpec.vars false W args.toList ds gs before)
 (hsz : (DataW.weightsEach Try.prog (Try.f4.params.toList ++ (OpenSpec.ofChange Rows.assignClashesSpec).bare.plain.varTypes Try.prog) (ds ++ gs)).all (· ≤ reachBytes) = true) :
 Calls Try.prog 4 args W fun e W' => ∃ v, e = .returned v ∧ Rows.assignClashesSpec.post enc Try.prog Try.f4 false true false false W args v W' := by
 have hW' := hW
 obtain ⟨p, q, hA0, hV, rfl, hfz, hnd⟩ := hW
 have hA : DataW.TrodAll enc Try.prog W 0 (fun _ => true) true Try.f4.params.toList args.toList ds p := hA0
 have hAk := hA0
 rw [Try.params4] at hA hval hsz
 obtain ⟨rfl, rfl⟩ := trodVars_none hV
 obtain ⟨v0, vs0, d0, ds0, p0, q0, hargs, rfl, rfl, h0, t0⟩ := trodAll_cons hA
 obtain ⟨v1, vs1, d1, ds1, p1, q1, rfl, rfl, rfl, h1, t1⟩ := trodAll_cons t0
 obtain ⟨v2, vs2, d2, ds2, p2, q2, rfl, rfl, rfl, h2, t2⟩ := trodAll_cons t1
 obtain ⟨rfl, rfl, rfl⟩ := trodAll_nil t2
 obtain rfl : args = #[v0, v1, v2] := by rw [← Array.toList_inj]; exact hargs
 have hlt := fun x hx => hW'.lt x hx
 simp only [List.append_nil] at hW'
 rw [List.append_nil] at hsz
 obtain ⟨a0, ok0, r0⟩ := opn_ll.argC (cells_slice Try.underlying22 (hval 0 22 v0 rfl rfl)) h0 (weigh hsz 0 (t := 22) (d := d0) rfl rfl)
 obtain ⟨a1, ok1, r1⟩ := opn_q3.argA Try.underlying23 (hval 1 23 v1 rfl rfl) h1 (weigh hsz 1 (t := 23) (d := d1) rfl rfl)
 obtain ⟨a2, ok2, r2⟩ := opn_pr.argS Try.underlying44 (hval 2 44 v2 rfl rfl) h2 (weigh hsz 2 (t := 44) (d := d2) rfl rfl)
 refine ((ECalls.of (AssignClashes_A a0 ok0 a1.1 a1.2.1 a1.2.2 ok1 a2.A.length (fun k => a2.A.getD k 0) a2.B.length (fun k => a2.B.getD k 0) a2.X a2.Y ok2.1 ok2.2)) O0 W [_, _, _] (fun b h => h.elim) ⟨r0, r1, r2, trivial⟩).mono fun e W' ⟨v, r, he, hr, hv, hE⟩ => ?_
 subst hr
 obtain rfl : v = .bool true := hv.2
 subst he
 exact ⟨_, rfl, post_below (pv := []) hW' (fun _ _ _ => trodAll_cons_mk (shut_bool Try.underlying4 _) trodAll_mk0)
  (fun sp hsp => trodAll_below laidOut hE (by rw [Try.params4]; intro t ht; simp only [List.mem_cons, List.not_mem_nil, or_false] at ht; rcases ht with rfl | rfl | rfl <;> exact ⟨by kernel_rfl, of_decide_eq_true (by kernel_rfl)⟩) hAk (fun x hx => hlt x (by rw [List.append_nil]; exact hx)) sp (fun x hx => hsp x (by simpa only [List.append_nil] using hx)))
  (fun _ _ => rfl) (by simp) hE (ok_one (by kernel_rfl) rfl (okWide_bool_mk Try.underlying4 _))⟩
theorem own : ownKnob Try.prog.godebug = none := by kernel_rfl
set_option maxRecDepth 100000 in
theorem lifted (os : Os) (started : os.Started) (H : Type) (enc : TypeId × Value → H) :
 ReturnsInHanded {} Try.checked os 4 .any (Rows.assignClashesSpec.pre6 enc Try.prog Try.f4 Rows.assignClashesRow.domain false) (Rows.assignClashesSpec.post enc Try.prog Try.f4 false true false false) := by
 refine returnsInHanded_of_change_sized (C := Try.checked) own started (by kernel_rfl) Try.func4
  (ChangeSpec.witness6 (enc := enc) (C := Try.checked) false ⟨#[], #[.slice none 0 0, .agg #[.int .i64 0, .int .i64 0, .int .i64 0], .agg #[.slice none 0 0, .slice none 0 0, .int .i64 0, .int .i64 0, .int .i64 0, .int .i64 0, .int .i64 0, .int .i64 0, .int .i64 0, .int .i64 0]], []⟩ 8 (by kernel_rfl) (by kernel_rfl) (by kernel_rfl) (by kernel_rfl)) ?_
 intro W base args ds gs before hval hW _ hsz _
 exact contract H enc W base args ds gs before hval hW hsz
theorem said : Rows.AssignClashesSaid :=
 OpenClaim.holds_of_wide 4 Try.f4 rfl rfl rfl rfl rfl rfl rfl ⟨rfl, rfl, rfl, rfl, rfl⟩ rfl rfl rfl rfl rfl (by kernel_rfl) Try.func4 (by kernel_rfl)
  (of_decide_eq_true (by kernel_rfl)) (by unfold Func.isWrapper; first | (rw [if_pos (by decide +kernel)]; kernel_rfl) | (rw [if_neg (by decide +kernel)]; exact ⟨rfl, rfl⟩))
  (fun os started H enc _ => lifted os started H enc)
end Go.Proofs.Ytjjaehpkccejaaa.assignClashes
end
