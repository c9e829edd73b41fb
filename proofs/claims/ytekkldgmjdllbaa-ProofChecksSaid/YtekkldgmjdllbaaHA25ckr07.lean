/- ProofChecks: the statement. No condition. -/
import Derived.Test.YtekkldgmjdllbaaHA25ckr06
import Derived.Test.YtekkldgmjdllbaaHA25ckr05
import Derived.Test.YtekkldgmjdllbaaG39
import Derived.Test.YtekkldgmjdllbaaG34
import Derived.Test.YtekkldgmjdllbaaG35
import Derived.Test.YtekkldgmjdllbaaG27
import Derived.Test.YtekkldgmjdllbaaG32
import Derived.Test.YtekkldgmjdllbaaHA25ckr04
import Derived.Test.YtekkldgmjdllbaaG22
import Derived.Test.YtekkldgmjdllbaaG21
import Derived.Test.YtekkldgmjdllbaaG31
import Derived.Test.YtekkldgmjdllbaaG17
import Derived.Test.YtekkldgmjdllbaaG37
import Derived.Test.YtekkldgmjdllbaaG25
import Derived.Test.YtekkldgmjdllbaaG38
import Derived.Test.YtekkldgmjdllbaaG23
import Derived.Test.YtekkldgmjdllbaaG04
import Derived.Scope
import Derived.Test.YtekkldgmjdllbaaG18
import Derived.Test.YtekkldgmjdllbaaG28
import Derived.Test.YtekkldgmjdllbaaG07
import Derived.Test.YtekkldgmjdllbaaHA25ckr01
import Derived.Test.YtekkldgmjdllbaaG20
import Derived.Test.YtekkldgmjdllbaaHA25ckr02
import Derived.Test.YtekkldgmjdllbaaG09
import Derived.Test.YtekkldgmjdllbaaG03
import Derived.RangeFuncLeaves
import Derived.RangeFuncRecord
import Derived.Test.YtekkldgmjdllbaaG36
import Derived.Test.YtekkldgmjdllbaaG24
import Derived.Test.YtekkldgmjdllbaaProg
import Derived.Test.YtekkldgmjdllbaaG15
import Derived.Test.YtekkldgmjdllbaaG11
import Derived.Test.YtekkldgmjdllbaaG08
import Derived.WideKeyMaps
import Derived.MapKept
import Derived.Carry
import Derived.Test.YtekkldgmjdllbaaG06
import Derived.Test.YtekkldgmjdllbaaG30
import Derived.Shelf.Abstract
import Derived.Test.YtekkldgmjdllbaaG02
import Derived.Test.YtekkldgmjdllbaaG10
import Derived.Laws.Pointers
import Derived.Test.YtekkldgmjdllbaaG01
import Derived.Test.YtekkldgmjdllbaaG33
import Derived.Laws.StructEq
import Derived.Test.YtekkldgmjdllbaaG16
import Derived.Test.YtekkldgmjdllbaaG05
import Derived.Great.BuildSlice
import Derived.Test.YtekkldgmjdllbaaG19
import Derived.Test.YtekkldgmjdllbaaG29
import Derived.RangeFuncNested
import Derived.Deep.AppendLies
import Derived.OrdersIn
import Derived.TacticsIn
import Derived.RangeFuncCalls
import Derived.Lib.Builder
import Derived.Lib.UnsafeStr
import Derived.Laws.Externs
import Derived.Lib.BufferRead
import Derived.WalkKit
import Derived.Lib.Hide
import Derived.Deep.QuietTactic
import Derived.BigQuiet
import Derived.Deep.DrawnRows
import Derived.Laws.Cover3
import Derived.Maps.AppendAt
import Derived.OwnWalk
import Derived.StillTail
import Derived.Below
import Derived.Deep.Draws
import Derived.KernelRfl
import Derived.Test.YtekkldgmjdllbaaG13
import Derived.Test.YtekkldgmjdllbaaG12
import Derived.Test.YtekkldgmjdllbaaG14
import Derived.Test.YtekkldgmjdllbaaRows
import Derived.Test.YtekkldgmjdllbaaG26
import Derived.Test.YtekkldgmjdllbaaHA25ckr03
import Derived.ProofKit
import Derived.OpenShut
import Derived.Deep.DeepHandedRow
import Derived.SizedLaws
import Derived.ChangeSlices
import Derived.ChangeSame
set_option linter.unusedSimpArgs false
set_option linter.unusedVariables false
section
namespace Go.Proofs.Ytekkldgmjdllbaa
open Go.RowKit Go.Flow Go.AV Go.Plain
theorem mkV_B (a b : Bp) (x y : Bg) : PrB 10000 (mkV a b x y).1 := by
 have nil : PrB 10000 [] := ⟨Nat.zero_le _, fun w hw => by cases hw⟩
 unfold mkV
 split
 ·rename_i h
  split
  ·exact nil
  ·obtain ⟨ha, hb, -⟩ := (szV_ok a b).1 h
   have h1 := n_bd ha
   have h2 := n_bd hb
   refine ⟨by have := shL_81 x y; show (mkL25 _ _ _ _ _).length ≤ _; unfold mkL25; rw [List.length_map]; omega, fun w hw => ?_⟩
   obtain ⟨d, -, rfl⟩ := List.mem_map.1 hw
   have l1 := okL_len (aloL_ok (sd1 a b x y d))
   have l2 := okL_len (aloL_ok (sd2 a b x y d))
   rw [show (sd1 a b x y d).o.n = a.n from rfl] at l1
   rw [show (sd2 a b x y d).o.n = b.n from rfl] at l2
   dsimp only
   omega
 ·exact nil
def ckL (p o1 o2 r : List Wt) (k : Nat) : List Wt := if k = 0 then p else if k = 1 then o1 else if k = 2 then o2 else r
set_option maxHeartbeats 4000000 in
set_option maxRecDepth 100000 in
theorem ProofChecks_A (c : Ca5) (hc : c.ok) (q : (Int × Int × Int) × Int × Int × Int) (raw : List Wt) (h1 : raw.length ≤ 4611686018427387904) (h2 : ∀ k, k < raw.length → (raw.getD k wtZ).1.length ≤ 4611686018427387904 ∧ (raw.getD k wtZ).2.length ≤ 4611686018427387904)
 (h3 : ∀ k, k < raw.length → (∀ i, i < (raw.getD k wtZ).1.length → iOk ((raw.getD k wtZ).1.getD i 0)) ∧ ∀ i, i < (raw.getD k wtZ).2.length → iOk ((raw.getD k wtZ).2.getD i 0)) :
 ACalls Try.prog 3 [.ag (ca5C c), .ag ([iC q.1.1, iC q.1.2.1, iC q.1.2.2] ++ [iC q.2.1, iC q.2.2.1, iC q.2.2.2]), .c (wpC raw)] (.c (bC true)) := by
 have hsan := sanity25_A
 have hmade := made25_A c hc
 have hfew := few_A raw h1 h2
 have hrk := (few_ok raw h3).1.ok
 have m2 := rMake_A (pcA c) (pcB c) (pcX c) (pcY c)
 have hB := mkV_B (pcA c) (pcB c) (pcX c) (pcY c)
 obtain ⟨o1, hb1, d1⟩ := Odd25_A 10000 _ hB (by decide) q.1.1 q.1.2.1 q.1.2.2
 obtain ⟨o2, hb2, d2⟩ := Odd25_A 10002 _ hb1 (by decide) q.2.1 q.2.2.1 q.2.2.2
 generalize fewV raw = rw at *
 refine acalls_at Try.func3 rfl rfl Try.ntmps3 rfl ?_
 generalize pcA c = a at *
 generalize pcB c = b at *
 generalize pcX c = x at *
 generalize pcY c = y at *
 generalize mkV a b x y = v at *
 obtain ⟨p, e⟩ := v
 have hok : ∀ k, PrOk (ckL p o1 o2 rw k) := fun k => by
  unfold ckL
  split
  ·exact hB.ok (by decide)
  ·split
   ·exact hb1.ok (by decide)
   ·split
    ·exact hb2.ok (by decide)
    ·exact hrk
 repeat (first
  | refine uA ?_
  | refine uB ?_
  | refine uC ?_
  | (refine rG 0 ?_
     (iterate 2 refine qr5 aQ ?_)
     refine kC ?_
     refine aB ?_)
  | (refine rG 1 ?_
     refine aH rfl rfl rfl rfl Try.func9 rfl (by kernel_rfl) (hsan) ?_
     refine kC ?_
     refine aB ?_)
  | (refine rG 2 ?_
     refine kF ?_
     refine aH rfl rfl rfl rfl Try.func10 rfl (by kernel_rfl) (hmade) ?_
     refine kA ?_
     (iterate 4 refine qr4 aN ?_)
     (iterate 4 refine qr5 (aM tyOk) ?_)
     (iterate 4 refine kI ?_)
     refine aB ?_)
  | (refine rG 3 ?_
     refine kA ?_
     refine aH rfl rfl rfl rfl Try.func11 rfl (by kernel_rfl) (hfew) ?_
     refine kC ?_
     refine aB ?_)
  | (refine rG 4 ?_
     (iterate 4 refine kF ?_)
     refine aH rfl rfl rfl rfl Try.func12 rfl (by kernel_rfl) (m2) ?_
     refine kA ?_
     (iterate 2 refine qr4 aN ?_)
     (iterate 2 refine kC ?_)
     refine aB ?_)
  | (refine rG 5 ?_
     refine kA ?_
     refine qr7eo (aU (i := 0) tyOk) ?_
     refine kF ?_
     refine aH rfl rfl rfl rfl Try.func13 rfl (by kernel_rfl) (d1) ?_
     refine kC ?_
     refine aB ?_)
  | (refine rG 6 ?_
     (iterate 3 refine kA ?_)
     refine qr7eo (aU (i := 1) tyOk) ?_
     refine kF ?_
     refine aH rfl rfl rfl rfl Try.func13 rfl (by kernel_rfl) (d2) ?_
     refine kA ?_
     refine qr11 (AList.litSl tyOk) ?_
     refine qr5 (aO tyOk) ?_
     refine kA ?_
     refine aB ?_))
 refine AWp.round (fun k : Nat =>
  mkSt 98 [(7, .c (bC true)), (8, .c (.pt 8 3 0 0)), (9, .c (.pt 9 3 0 0)), (10, .c (.pt 10 4 0 0)), (11, .c (.pt 11 4 0 0)), (50, .c (.ls 4 1 (sF [wpC p, wpC o1, wpC o2, wpC rw] 1))), (51, .c (iC 4)), (52, .c (iC (k : Nat)))] [(8, ⟨false, 1, 3, 31, lF (bpC a)⟩), (9, ⟨false, 1, 3, 31, lF (bpC b)⟩), (10, ⟨false, 1, 4, 33, lF (bgC x)⟩), (11, ⟨false, 1, 4, 33, lF (bgC y)⟩)] [8, 9, 10, 11]
  ) (fun k => k ≤ 4) (fun k => 4 - k) 0 (Nat.zero_le _) ?_ (fun k hk => ?_)
 ·refine Wk.mk [(8, some 8), (9, some 9), (10, some 10), (11, some 11)] rfl rfl rfl ?_ ?_
  ·exact allT
  ·exact allH
 by_cases hk4 : k < 4
 rotate_left
 ·repeat (first
   | refine uA ?_
   | refine uB ?_
   | refine uH ?_
   | refine AWp.ret ?_
   | refine kU ?_
   | (refine rG 7 ?_
      refine qr5f aJ ?_
      refine aB ?_)
   | (refine rG 16 ?_
      refine kA ?_
      refine kC ?_
      refine aB ?_))
  refine ⟨mkSt 98 [(6, .c (bC true))] [] [], [], Wk.mk [] rfl rfl rfl ?_ trivial, rfl, rfl, aR1⟩
  exact allT
 have e55 : sF [wpC p, wpC o1, wpC o2, wpC rw] 1 k 0 = wpC (ckL p o1 o2 rw k) := by
  match k, hk4 with
  | 0, _ => rfl
  | 1, _ => rfl
  | 2, _ => rfl
  | 3, _ => rfl
 have ho := hok k
 generalize ckL p o1 o2 rw k = l at *
 have c1 := pCheck_A a b x y l ho
 have c2 := rCheck25_A a b x y l ho
 have s1 := pShrink_A a b x y l ho
 have s2 := rShrink_A a b x y l ho
 have hR := shkV_R a b x y l
 generalize chkV a b x y l = z at *
 generalize shkV a b x y l = u at *
 obtain ⟨m, f⟩ := u
 have hS := Same25_A m m hR hR
 rw [decide_eq_true rfl] at hS
 repeat (first
  | refine uA ?_
  | refine uB ?_
  | refine uC ?_
  | refine uG ?_
  | refine uD ?_
  | refine kT ?_
  | refine kU ?_
  | (refine rG 7 ?_
     refine qr5t aK ?_
     refine aB ?_)
  | (refine rG 8 ?_
     refine qr8eo2 (aP (k := k) tyOk) ?_
     refine AList.load1lE tyOk (e55) rfl rfl rfl rfl rfl oM ?_
     refine kC ?_
     refine aB ?_)
  | (refine AWp.draw (id := 9) mixed ?_; (iterate 4 refine kF ?_); refine kA ?_; refine aH rfl rfl rfl rfl Try.func14 rfl (by kernel_rfl) (c1) ?_; (iterate 4 refine kF ?_); refine kA ?_; refine aH rfl rfl rfl rfl Try.func15 rfl (by kernel_rfl) (c2) ?_; refine aJ rfl rfl rfl rfl rfl (by simp only [cmpP, eq_self, decide_true, Bool.not_true]) ?_; refine aB ⟨by kernel_rfl, ?_⟩)
  | (refine rG 11 ?_
     (iterate 4 refine kF ?_)
     refine kA ?_
     refine aH rfl rfl rfl rfl Try.func16 rfl (by kernel_rfl) (s1) ?_
     refine kA ?_
     (iterate 2 refine qr4 aN ?_)
     (iterate 2 refine kC ?_)
     refine aB ?_)
  | (refine rG 12 ?_
     (iterate 4 refine kF ?_)
     refine kA ?_
     refine aH rfl rfl rfl rfl Try.func17 rfl (by kernel_rfl) (s2) ?_
     refine kA ?_
     (iterate 2 refine qr4 aN ?_)
     (iterate 2 refine kC ?_)
     refine aB ?_)
  | (refine rG 13 ?_
     (iterate 2 refine kA ?_)
     refine aJ rfl rfl rfl rfl rfl (by simp only [cmpP, eq_self, decide_true, Bool.not_true]) ?_
     (iterate 3 refine kA ?_)
     refine aH rfl rfl rfl rfl Try.func18 rfl (by kernel_rfl) (hS) ?_
     refine qr3 AList.notB ?_
     refine qr4 aR ?_
     refine aB ?_)
  | (refine rG 15 ?_
     refine qr4w2 aL ?_
     refine kA ?_
     refine aB ?_))
 refine ⟨k + 1, hk4, Wk.mk [(8, some 8), (9, some 9), (10, some 10), (11, some 11)] rfl rfl rfl ?_ ?_, by omega⟩
 ·exact allT
 ·exact allH
end Go.Proofs.Ytekkldgmjdllbaa
end
section
namespace Go.Proofs.Ytekkldgmjdllbaa.proofChecks
open Go.ChangeShapes Go.WideShapes Go.ChangeAt Go.RowKit Go.Flow Go.AV
set_option maxRecDepth 100000 in
theorem contract (H : Type) (enc : TypeId × Value → H) (W : World) (base : Nat) (args : Array Value) (ds gs : List (DataW H)) (before : List MemPlace)
 (hval : ∀ (j : Nat) t v, Try.f3.params[j]? = some t → args[j]? = some v → Value.okWide Try.prog W .any base t v)
 (hW : DataW.Whole enc Try.prog Try.f3.params.toList Rows.proofChecksSpec.vars false W args.toList ds gs before)
 (hsz : (DataW.weightsEach Try.prog (Try.f3.params.toList ++ (OpenSpec.ofChange Rows.proofChecksSpec).bare.plain.varTypes Try.prog) (ds ++ gs)).all (· ≤ reachBytes) = true) :
 Calls Try.prog 3 args W fun e W' => ∃ v, e = .returned v ∧ Rows.proofChecksSpec.post enc Try.prog Try.f3 false true false false W args v W' := by
 have hW' := hW
 obtain ⟨p, q, hA0, hV, rfl, hfz, hnd⟩ := hW
 have hA : DataW.TrodAll enc Try.prog W 0 (fun _ => true) true Try.f3.params.toList args.toList ds p := hA0
 have hAk := hA0
 rw [Try.params3] at hA hval hsz
 obtain ⟨rfl, rfl⟩ := trodVars_none hV
 obtain ⟨v0, vs0, d0, ds0, p0, q0, hargs, rfl, rfl, h0, t0⟩ := trodAll_cons hA
 obtain ⟨v1, vs1, d1, ds1, p1, q1, rfl, rfl, rfl, h1, t1⟩ := trodAll_cons t0
 obtain ⟨v2, vs2, d2, ds2, p2, q2, rfl, rfl, rfl, h2, t2⟩ := trodAll_cons t1
 obtain ⟨rfl, rfl, rfl⟩ := trodAll_nil t2
 obtain rfl : args = #[v0, v1, v2] := by rw [← Array.toList_inj]; exact hargs
 have hlt := fun x hx => hW'.lt x hx
 simp only [List.append_nil] at hW'
 rw [List.append_nil] at hsz
 obtain ⟨a0, ok0, r0⟩ := opn_ca5.argS Try.underlying24 (hval 0 24 v0 rfl rfl) h0 (weigh hsz 0 (t := 24) (d := d0) rfl rfl)
 obtain ⟨a1, ok1, r1⟩ := opn_q33r.argA Try.underlying26 (hval 1 26 v1 rfl rfl) h1 (weigh hsz 1 (t := 26) (d := d1) rfl rfl)
 obtain ⟨a2, ok2, r2⟩ := opn_wts.argC (cells_slice Try.underlying27 (hval 2 27 v2 rfl rfl)) h2 (weigh hsz 2 (t := 27) (d := d2) rfl rfl)
 refine ((ECalls.of (ProofChecks_A a0 ok0 a1 a2 ok2.1 ok2.2.1 ok2.2.2)) O0 W [_, _, _] (fun b h => h.elim) ⟨r0, r1, r2, trivial⟩).mono fun e W' ⟨v, r, he, hr, hv, hE⟩ => ?_
 subst hr
 obtain rfl : v = .bool true := hv.2
 subst he
 exact ⟨_, rfl, post_below (pv := []) hW' (fun _ _ _ => trodAll_cons_mk (shut_bool Try.underlying4 _) trodAll_mk0)
  (fun sp hsp => trodAll_below laidOut hE (by rw [Try.params3]; intro t ht; simp only [List.mem_cons, List.not_mem_nil, or_false] at ht; rcases ht with rfl | rfl | rfl <;> exact ⟨by kernel_rfl, of_decide_eq_true (by kernel_rfl)⟩) hAk (fun x hx => hlt x (by rw [List.append_nil]; exact hx)) sp (fun x hx => hsp x (by simpa only [List.append_nil] using hx)))
  (fun _ _ => rfl) (by simp) hE (ok_one (by kernel_rfl) rfl (okWide_bool_mk Try.underlying4 _))⟩
theorem own : ownKnob Try.prog.godebug = none := by kernel_rfl
set_option maxRecDepth 100000 in
theorem lifted (os : Os) (started : os.Started) (H : Type) (enc : TypeId × Value → H) :
 ReturnsInHanded {} Try.checked os 3 .any (Rows.proofChecksSpec.pre6 enc Try.prog Try.f3 Rows.proofChecksRow.domain false) (Rows.proofChecksSpec.post enc Try.prog Try.f3 false true false false) := by
 refine returnsInHanded_of_change_sized (C := Try.checked) own started (by kernel_rfl) Try.func3
  (ChangeSpec.witness6 (enc := enc) (C := Try.checked) false ⟨#[], #[.agg #[.slice none 0 0, .slice none 0 0, .slice none 0 0, .slice none 0 0], .agg #[.int .i64 0, .int .i64 0, .int .i64 0, .int .i64 0, .int .i64 0, .int .i64 0], .slice none 0 0], []⟩ 8 (by kernel_rfl) (by kernel_rfl) (by kernel_rfl) (by kernel_rfl)) ?_
 intro W base args ds gs before hval hW _ hsz _
 exact contract H enc W base args ds gs before hval hW hsz
theorem said : Rows.ProofChecksSaid :=
 OpenClaim.holds_of_wide 3 Try.f3 rfl rfl rfl rfl rfl rfl rfl ⟨rfl, rfl, rfl, rfl, rfl⟩ rfl rfl rfl rfl rfl (by kernel_rfl) Try.func3 (by kernel_rfl)
  (of_decide_eq_true (by kernel_rfl)) (by unfold Func.isWrapper; first | (rw [if_pos (by decide +kernel)]; kernel_rfl) | (rw [if_neg (by decide +kernel)]; exact ⟨rfl, rfl⟩))
  (fun os started H enc _ => lifted os started H enc)
end Go.Proofs.Ytekkldgmjdllbaa.proofChecks
end
