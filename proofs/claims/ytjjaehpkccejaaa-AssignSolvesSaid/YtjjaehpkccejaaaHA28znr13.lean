/- AssignSolves: the statement. No condition. -/
import Derived.Test.YtjjaehpkccejaaaHA28znr12
import Derived.Test.YtjjaehpkccejaaaHA28znr08
import Derived.Test.YtjjaehpkccejaaaHA28znr11
import Derived.Test.YtjjaehpkccejaaaG35
import Derived.Test.YtjjaehpkccejaaaG34
import Derived.Test.YtjjaehpkccejaaaHA28znr07
import Derived.Test.YtjjaehpkccejaaaG33
import Derived.Test.YtjjaehpkccejaaaG31
import Derived.Test.YtjjaehpkccejaaaG32
import Derived.Test.YtjjaehpkccejaaaHA28znr09
import Derived.Test.YtjjaehpkccejaaaG20
import Derived.Test.YtjjaehpkccejaaaG27
import Derived.Test.YtjjaehpkccejaaaG29
import Derived.Test.YtjjaehpkccejaaaG36
import Derived.Test.YtjjaehpkccejaaaG26
import Derived.Test.YtjjaehpkccejaaaG06
import Derived.Test.YtjjaehpkccejaaaHA28znr01
import Derived.Laws.Pointers
import Derived.Test.YtjjaehpkccejaaaG30
import Derived.Test.YtjjaehpkccejaaaG15
import Derived.Test.YtjjaehpkccejaaaG25
import Derived.WideKeyMaps
import Derived.MapKept
import Derived.Carry
import Derived.Test.YtjjaehpkccejaaaG05
import Derived.Test.YtjjaehpkccejaaaG28
import Derived.Test.YtjjaehpkccejaaaG19
import Derived.Test.YtjjaehpkccejaaaHA28znr03
import Derived.Test.YtjjaehpkccejaaaHA28znr10
import Derived.Test.YtjjaehpkccejaaaG10
import Derived.Test.YtjjaehpkccejaaaG07
import Derived.Test.YtjjaehpkccejaaaG17
import Derived.Test.YtjjaehpkccejaaaG21
import Derived.Test.YtjjaehpkccejaaaHA28znr04
import Derived.Test.YtjjaehpkccejaaaG22
import Derived.Test.YtjjaehpkccejaaaHA28znr05
import Derived.Test.YtjjaehpkccejaaaG18
import Derived.Test.YtjjaehpkccejaaaG14
import Derived.Test.YtjjaehpkccejaaaG09
import Derived.Test.YtjjaehpkccejaaaG08
import Derived.Test.YtjjaehpkccejaaaG04
import Derived.Great.BuildSlice
import Derived.Test.YtjjaehpkccejaaaG03
import Derived.Scope
import Derived.Laws.StructEq
import Derived.Test.YtjjaehpkccejaaaProg
import Derived.Test.YtjjaehpkccejaaaG01
import Derived.Shelf.Abstract
import Derived.Test.YtjjaehpkccejaaaG13
import Derived.Test.YtjjaehpkccejaaaHA28znr02
import Derived.DeepKeys4
import Derived.Test.YtjjaehpkccejaaaG02
import Derived.RangeFuncLeaves
import Derived.RangeFuncRecord
import Derived.Lib.Hide
import Derived.Deep.QuietTactic
import Derived.BigQuiet
import Derived.Deep.DrawnRows
import Derived.Deep.AppendLies
import Derived.Laws.Cover3
import Derived.WalkKit
import Derived.Maps.AppendAt
import Derived.OwnWalk
import Derived.RangeFuncNested
import Derived.Test.YtjjaehpkccejaaaG24
import Derived.Test.YtjjaehpkccejaaaG16
import Derived.OrdersIn
import Derived.TacticsIn
import Derived.RangeFuncCalls
import Derived.StillTail
import Derived.Below
import Derived.Deep.Draws
import Derived.KernelRfl
import Derived.Test.YtjjaehpkccejaaaG12
import Derived.Test.YtjjaehpkccejaaaG11
import Derived.Test.YtjjaehpkccejaaaRows
import Derived.Test.YtjjaehpkccejaaaG23
import Derived.Test.YtjjaehpkccejaaaHA28znr06
import Derived.ProofKit
import Derived.OpenShut
import Derived.Deep.DeepHandedRow
import Derived.SizedLaws
import Derived.ChangeSlices
import Derived.ChangeSame
set_option linter.unusedSimpArgs false
set_option linter.unusedVariables false
section
namespace Go.Proofs.Ytjjaehpkccejaaa
open Go.RowKit Go.Flow Go.AV Go.Plain
theorem sm_bd {p : Pb} (h : Sm p) : p.bd 200 := by
 obtain ⟨hR, hr, hC, hc, hF, hf, hO, hT⟩ := h
 have h65 : ∀ b : Bp, (∃ d, b = bp65 d) → BpBd 200 b := fun b ⟨d, e⟩ => by subst e; exact ⟨(by decide : -((200 : Nat) : Int) ≤ 6 ∧ (6 : Int) ≤ ((200 : Nat) : Int)), (by decide : 30 ≤ 200)⟩
 exact ⟨fun r h => (hr r h).2, by omega, by omega, by omega, by omega, by omega, fun l hl => ⟨by have := (hc l hl).1; omega, fun b hb => h65 b ((hc l hl).2 b hb)⟩, fun b hb => h65 b (hf b hb)⟩
theorem sm_n {p : Pb} (h : Sm p) : (∀ l ∈ p.C, ∀ b ∈ l, b.n ≤ 1000000) ∧ ∀ b ∈ p.F, b.n ≤ 1000000 := by
 have hb := sm_bd h
 exact ⟨fun l hl b h => by have := ((hb.C l hl).2 b h).2; omega, fun b h => by have := (hb.F b h).2; omega⟩
set_option maxHeartbeats 4000000 in
set_option maxRecDepth 100000 in
theorem AssignSolves_A (ll : List (List Int)) (hll : LlOk ll) (q0 q1 q2 : Int) (hq1 : -9223372036854775808 ≤ q1 ∧ q1 ≤ 9223372036854775807) : ACalls Try.prog 5 [.c (lsL ll), .ag [iC q0, iC q1, iC q2]] (.c (bC true)) := by
 have hM := Made28_A ll hll
 obtain ⟨sm, -⟩ := made_sm ll
 have hSan := sanity28_A
 generalize made28 ll = p at *
 obtain ⟨x, hx, hO⟩ := Odd28_A 200 p (sm_bd sm) (by decide) (by decide) q0 q1 q2 hq1
 have hSame := Same28_A p sm.ok (sm_n sm).1 (sm_n sm).2
 have fact : ∀ y : Pb, y.ok → ∃ (l : List Int) (e : Int), ACalls Try.prog 21 [.ag (pbC y)] (.tu [.c (lsI l), .c (iC e)]) ∧ ACalls Try.prog 22 [.ag (pbC y)] (.tu [.c (lsI l), .c (iC e)]) ∧ ACalls Try.prog 23 [.c (lsI l), .c (lsI l)] (.c (bC true)) := fun y hy => by
  have h1 := SameInts_A (solveV y).1 (solveV y).1 (by have := solveV_len y; have := hy.lC; omega)
  rw [decide_eq_true rfl] at h1
  exact ⟨_, _, Solve28_A y hy, rSolve28_A y hy, h1⟩
 obtain ⟨l1, e1, s1, r1, i1⟩ := fact p sm.ok
 obtain ⟨l2, e2, s2, r2, i2⟩ := fact x (hx.ok (by decide))
 refine acalls_at Try.func5 rfl rfl Try.ntmps5 rfl ?_
 repeat (first
  | refine AWp.seq ?_
  | refine thenA_n ?_
  | refine AWp.block ?_
  | (refine rG 0 ?_
     refine qr5 aQ ?_
     refine kC ?_
     refine aB ?_)
  | (refine rG 1 ?_
     refine aH rfl rfl rfl rfl Try.func9 rfl (by kernel_rfl) (hSan) ?_
     refine kC ?_
     refine aB ?_)
  | (refine rG 2 ?_
     refine kA ?_
     refine aH rfl rfl rfl rfl Try.func10 rfl (by kernel_rfl) (hM) ?_
     refine qr5 (aM tyOk) ?_
     refine kI ?_
     refine aB ?_)
  | (refine AWp.draw (id := 3) mixed ?_; (iterate 3 refine kF ?_); refine aH rfl rfl rfl rfl Try.func11 rfl (by kernel_rfl) (hO) ?_; refine qr11 (AList.litSl tyOk) ?_; refine qr5 (aO tyOk) ?_; refine kA ?_; refine aB ⟨by kernel_rfl, ?_⟩))
 refine AWp.round (fun k : Nat => mkSt 53 [(0, .c (lsL ll)), (5, .c (bC true)), (6, .c (.pt 6 5 0 0)), (20, .c (.ls 2 5 (sF (pbC p ++ pbC x) 5))), (21, .c (iC 2)), (22, .c (iC (k : Nat)))] [(6, ⟨false, 1, 5, 32, lF (pbC p)⟩)] [6])
  (fun k => k ≤ 2) (fun k => 2 - k) 0 (Nat.zero_le _) ?_ (fun k hk => ?_)
 ·refine Wk.mk [(6, some 6)] rfl rfl rfl ?_ ?_
  ·exact allT
  ·exact allH
 have hk3 : k = 0 ∨ k = 1 ∨ k = 2 := by omega
 rcases hk3 with rfl | rfl | rfl
 ·repeat (first
   | refine AWp.seq ?_
   | refine thenA_n ?_
   | refine AWp.block ?_
   | refine AWp.skip ?_
   | refine inBlk_n ?_
   | refine AWp.condT rfl cnT ?_
   | refine AWp.condF rfl cnF ?_
   | (refine rG 4 ?_
      refine qr5t aK ?_
      refine aB ?_)
   | (refine rG 5 ?_
      refine qr8eo2 (aP (k := 0) tyOk) ?_
      refine qr5o (aT tyOk) ?_
      refine qr5 (aM tyOk) ?_
      refine kI ?_
      refine aB ?_)
   | (refine rG 6 ?_
      refine kF ?_
      refine aH rfl rfl rfl rfl Try.func21 rfl (by kernel_rfl) (s1) ?_
      refine kA ?_
      (iterate 2 refine qr4 aN ?_)
      (iterate 2 refine kC ?_)
      refine aB ?_)
   | (refine rG 7 ?_
      refine kF ?_
      refine aH rfl rfl rfl rfl Try.func22 rfl (by kernel_rfl) (r1) ?_
      refine kA ?_
      (iterate 2 refine qr4 aN ?_)
      (iterate 2 refine kC ?_)
      refine aB ?_)
   | (refine rG 8 ?_
      (iterate 2 refine kA ?_)
      refine aJ rfl rfl rfl rfl rfl (by simp only [cmpP, eq_self, decide_true, Bool.not_true]) ?_
      (iterate 3 refine kA ?_)
      refine aH rfl rfl rfl rfl Try.func23 rfl (by kernel_rfl) (i1) ?_
      refine qr3 AList.notB ?_
      refine qr4 aR ?_
      refine aB ?_)
   | (refine rG 10 ?_
      refine qr4w2 aL ?_
      refine kA ?_
      refine aB ?_))
  refine ⟨1, by omega, Wk.mk [(6, some 6)] rfl rfl rfl ?_ ?_, by omega⟩
  ·exact allT
  ·exact allH
 ·repeat (first
   | refine AWp.seq ?_
   | refine thenA_n ?_
   | refine AWp.block ?_
   | refine AWp.skip ?_
   | refine inBlk_n ?_
   | refine AWp.condT rfl cnT ?_
   | refine AWp.condF rfl cnF ?_
   | (refine rG 4 ?_
      refine qr5t aK ?_
      refine aB ?_)
   | (refine rG 5 ?_
      refine qr8eo2 (aP (k := 1) tyOk) ?_
      refine qr5o (aT tyOk) ?_
      refine qr5 (aM tyOk) ?_
      refine kI ?_
      refine aB ?_)
   | (refine rG 6 ?_
      refine kF ?_
      refine aH rfl rfl rfl rfl Try.func21 rfl (by kernel_rfl) (s2) ?_
      refine kA ?_
      (iterate 2 refine qr4 aN ?_)
      (iterate 2 refine kC ?_)
      refine aB ?_)
   | (refine rG 7 ?_
      refine kF ?_
      refine aH rfl rfl rfl rfl Try.func22 rfl (by kernel_rfl) (r2) ?_
      refine kA ?_
      (iterate 2 refine qr4 aN ?_)
      (iterate 2 refine kC ?_)
      refine aB ?_)
   | (refine rG 8 ?_
      (iterate 2 refine kA ?_)
      refine aJ rfl rfl rfl rfl rfl (by simp only [cmpP, eq_self, decide_true, Bool.not_true]) ?_
      (iterate 3 refine kA ?_)
      refine aH rfl rfl rfl rfl Try.func23 rfl (by kernel_rfl) (i2) ?_
      refine qr3 AList.notB ?_
      refine qr4 aR ?_
      refine aB ?_)
   | (refine rG 10 ?_
      refine qr4w2 aL ?_
      refine kA ?_
      refine aB ?_))
  refine ⟨2, by omega, Wk.mk [(6, some 6)] rfl rfl rfl ?_ ?_, by omega⟩
  ·exact allT
  ·exact allH
 ·repeat (first
   | refine AWp.seq ?_
   | refine thenA_n ?_
   | refine AWp.exit ?_
   | refine AWp.ret ?_
   | refine AWp.condF rfl cnF ?_
   | (refine rG 4 ?_
      refine qr5f aJ ?_
      refine aB ?_)
   | (refine AWp.draw (id := 11) mixed ?_; (iterate 2 refine kA ?_); refine kF ?_; refine kA ?_; refine aH rfl rfl rfl rfl Try.func10 rfl (by kernel_rfl) (hM) ?_; refine aH rfl rfl rfl rfl Try.func24 rfl (by kernel_rfl) (hSame) ?_; refine qr4 aS ?_; refine kC ?_; refine aB ⟨by kernel_rfl, ?_⟩))
  refine ⟨mkSt 53 [(4, .c (bC true))] [] [], [], Wk.mk [] rfl rfl rfl ?_ trivial, rfl, rfl, ARets.one (x := .c _) (ARes.tmp rfl rfl)⟩
  exact allT
end Go.Proofs.Ytjjaehpkccejaaa
end

section
namespace Go.Proofs.Ytjjaehpkccejaaa.assignSolves
open Go.ChangeShapes Go.WideShapes Go.ChangeAt Go.RowKit Go.Flow Go.AV
set_option maxRecDepth 100000 in
theorem contract (H : Type) (enc : TypeId × Value → H) (W : World) (base : Nat) (args : Array Value) (ds gs : List (DataW H)) (before : List MemPlace)
 (hval : ∀ (j : Nat) t v, Try.f5.params[j]? = some t → args[j]? = some v → Value.okWide Try.prog W .any base t v)
 (hW : DataW.Whole enc Try.prog Try.f5.params.toList Rows.assignSolvesSpec.vars false W args.toList ds gs before)
 (hsz : (DataW.weightsEach Try.prog (Try.f5.params.toList ++ (OpenSpec.ofChange Rows.assignSolvesSpec).bare.plain.varTypes Try.prog) (ds ++ gs)).all (· ≤ reachBytes) = true) :
 Calls Try.prog 5 args W fun e W' => ∃ v, e = .returned v ∧ Rows.assignSolvesSpec.post enc Try.prog Try.f5 false true false false W args v W' := by
 have hW' := hW
 obtain ⟨p, q, hA0, hV, rfl, hfz, hnd⟩ := hW
 have hA : DataW.TrodAll enc Try.prog W 0 (fun _ => true) true Try.f5.params.toList args.toList ds p := hA0
 have hAk := hA0
 rw [Try.params5] at hA hval hsz
 obtain ⟨rfl, rfl⟩ := trodVars_none hV
 obtain ⟨v0, vs0, d0, ds0, p0, q0, hargs, rfl, rfl, h0, t0⟩ := trodAll_cons hA
 obtain ⟨v1, vs1, d1, ds1, p1, q1, rfl, rfl, rfl, h1, t1⟩ := trodAll_cons t0
 obtain ⟨rfl, rfl, rfl⟩ := trodAll_nil t1
 obtain rfl : args = #[v0, v1] := by rw [← Array.toList_inj]; exact hargs
 have hlt := fun x hx => hW'.lt x hx
 simp only [List.append_nil] at hW'
 rw [List.append_nil] at hsz
 obtain ⟨a0, ok0, r0⟩ := opn_ll.argC (cells_slice Try.underlying22 (hval 0 22 v0 rfl rfl)) h0 (weigh hsz 0 (t := 22) (d := d0) rfl rfl)
 obtain ⟨a1, ok1, r1⟩ := opn_q3.argA Try.underlying23 (hval 1 23 v1 rfl rfl) h1 (weigh hsz 1 (t := 23) (d := d1) rfl rfl)
 refine ((ECalls.of (AssignSolves_A a0 ok0 a1.1 a1.2.1 a1.2.2 ok1)) O0 W [_, _] (fun b h => h.elim) ⟨r0, r1, trivial⟩).mono fun e W' ⟨v, r, he, hr, hv, hE⟩ => ?_
 subst hr
 obtain rfl : v = .bool true := hv.2
 subst he
 exact ⟨_, rfl, post_below (pv := []) hW' (fun _ _ _ => trodAll_cons_mk (shut_bool Try.underlying4 _) trodAll_mk0)
  (fun sp hsp => trodAll_below laidOut hE (by rw [Try.params5]; intro t ht; simp only [List.mem_cons, List.not_mem_nil, or_false] at ht; rcases ht with rfl | rfl <;> exact ⟨by kernel_rfl, of_decide_eq_true (by kernel_rfl)⟩) hAk (fun x hx => hlt x (by rw [List.append_nil]; exact hx)) sp (fun x hx => hsp x (by simpa only [List.append_nil] using hx)))
  (fun _ _ => rfl) (by simp) hE (ok_one (by kernel_rfl) rfl (okWide_bool_mk Try.underlying4 _))⟩
theorem own : ownKnob Try.prog.godebug = none := by kernel_rfl
set_option maxRecDepth 100000 in
theorem lifted (os : Os) (started : os.Started) (H : Type) (enc : TypeId × Value → H) :
 ReturnsInHanded {} Try.checked os 5 .any (Rows.assignSolvesSpec.pre6 enc Try.prog Try.f5 Rows.assignSolvesRow.domain false) (Rows.assignSolvesSpec.post enc Try.prog Try.f5 false true false false) := by
 refine returnsInHanded_of_change_sized (C := Try.checked) own started (by kernel_rfl) Try.func5
  (ChangeSpec.witness6 (enc := enc) (C := Try.checked) false ⟨#[], #[.slice none 0 0, .agg #[.int .i64 0, .int .i64 0, .int .i64 0]], []⟩ 8 (by kernel_rfl) (by kernel_rfl) (by kernel_rfl) (by kernel_rfl)) ?_
 intro W base args ds gs before hval hW _ hsz _
 exact contract H enc W base args ds gs before hval hW hsz
theorem said : Rows.AssignSolvesSaid :=
 OpenClaim.holds_of_wide 5 Try.f5 rfl rfl rfl rfl rfl rfl rfl ⟨rfl, rfl, rfl, rfl, rfl⟩ rfl rfl rfl rfl rfl (by kernel_rfl) Try.func5 (by kernel_rfl)
  (of_decide_eq_true (by kernel_rfl)) (by unfold Func.isWrapper; first | (rw [if_pos (by decide +kernel)]; kernel_rfl) | (rw [if_neg (by decide +kernel)]; exact ⟨rfl, rfl⟩))
  (fun os started H enc _ => lifted os started H enc)
end Go.Proofs.Ytjjaehpkccejaaa.assignSolves
end
