/- ApartClashes: the statement. No condition. -/
import Derived.Test.YtijaioiojclooaaRows
import Derived.Test.YtijaioiojclooaaG31
import Derived.Test.YtijaioiojclooaaHA24clr06
import Derived.Test.YtijaioiojclooaaG30
import Derived.Test.YtijaioiojclooaaHA24clr04
import Derived.Test.YtijaioiojclooaaHA24clr05
import Derived.WalkKit
import Derived.ProofKit
import Derived.OpenShut
import Derived.Deep.DeepHandedRow
import Derived.Test.YtijaioiojclooaaG32
import Derived.Test.YtijaioiojclooaaG08
import Derived.Test.YtijaioiojclooaaHA24clr01
import Derived.Test.YtijaioiojclooaaG29
import Derived.Test.YtijaioiojclooaaG18
import Derived.Test.YtijaioiojclooaaProg
import Derived.Test.YtijaioiojclooaaG07
import Derived.Laws.StructEq
import Derived.Test.YtijaioiojclooaaG26
import Derived.Test.YtijaioiojclooaaG27
import Derived.Test.YtijaioiojclooaaG28
import Derived.Test.YtijaioiojclooaaG16
import Derived.Test.YtijaioiojclooaaG11
import Derived.Test.YtijaioiojclooaaG01
import Derived.SizedLaws
import Derived.ChangeSlices
import Derived.Carry
import Derived.Below
import Derived.ChangeSame
import Derived.Test.YtijaioiojclooaaG25
import Derived.Test.YtijaioiojclooaaG10
import Derived.Test.YtijaioiojclooaaG06
import Derived.Test.YtijaioiojclooaaG17
import Derived.Test.YtijaioiojclooaaHA24clr03
import Derived.Lib.Hide
import Derived.Deep.QuietTactic
import Derived.BigQuiet
import Derived.Deep.DrawnRows
import Derived.Deep.AppendLies
import Derived.StillTail
import Derived.Deep.Draws
import Derived.KernelRfl
import Derived.Test.YtijaioiojclooaaG24
import Derived.Test.YtijaioiojclooaaG05
import Derived.Great.BuildSlice
import Derived.Maps.AppendAt
import Derived.OwnWalk
import Derived.Test.YtijaioiojclooaaG23
import Derived.Test.YtijaioiojclooaaG04
import Derived.Scope
import Derived.Test.YtijaioiojclooaaG03
import Derived.RangeFuncLeaves
import Derived.RangeFuncRecord
import Derived.Test.YtijaioiojclooaaG21
import Derived.Test.YtijaioiojclooaaG22
import Derived.Test.YtijaioiojclooaaG09
import Derived.Test.YtijaioiojclooaaG02
import Derived.Shelf.Abstract
import Derived.OrdersIn
import Derived.TacticsIn
import Derived.RangeFuncCalls
import Derived.Test.YtijaioiojclooaaG20
import Derived.RangeFuncNested
import Derived.Test.YtijaioiojclooaaHA24clr02
import Derived.Laws.Cover3
import Derived.Test.YtijaioiojclooaaG19
import Derived.Test.YtijaioiojclooaaG15
import Derived.Test.YtijaioiojclooaaG14
import Derived.Test.YtijaioiojclooaaG13
import Derived.Test.YtijaioiojclooaaG12
set_option linter.unusedSimpArgs false
set_option linter.unusedVariables false
section
namespace Go.Proofs.Ytijaioiojclooaa.apartClashes
open Go.ChangeShapes Go.WideShapes Go.ChangeAt Go.RowKit Go.Flow Go.AV
set_option maxRecDepth 100000 in
theorem contract (H : Type) (enc : TypeId × Value → H) (W : World) (base : Nat) (args : Array Value) (ds gs : List (DataW H)) (before : List MemPlace)
    (hval : ∀ (j : Nat) t v, Try.f3.params[j]? = some t → args[j]? = some v → Value.okWide Try.prog W .any base t v)
    (hW : DataW.Whole enc Try.prog Try.f3.params.toList Rows.apartClashesSpec.vars false W args.toList ds gs before)
    (hsz : (DataW.weightsEach Try.prog (Try.f3.params.toList ++ (OpenSpec.ofChange Rows.apartClashesSpec).bare.plain.varTypes Try.prog) (ds ++ gs)).all (· ≤ reachBytes) = true) :
    Calls Try.prog 3 args W fun e W' => ∃ v, e = .returned v ∧ Rows.apartClashesSpec.post enc Try.prog Try.f3 false true false false W args v W' := by
  have hW' := hW
  obtain ⟨p, q, hA0, hV, rfl, hfz, hnd⟩ := hW
  have hA : DataW.TrodAll enc Try.prog W 0 (fun _ => true) true Try.f3.params.toList args.toList ds p := hA0
  have hAk := hA0
  rw [Try.params3] at hA hval hsz
  obtain ⟨rfl, rfl⟩ := trodVars_none hV
  obtain ⟨v0, vs0, d0, ds0, p0, q0, hargs, rfl, rfl, h0, t0⟩ := trodAll_cons hA
  obtain ⟨v1, vs1, d1, ds1, p1, q1, rfl, rfl, rfl, h1, t1⟩ := trodAll_cons t0
  obtain ⟨v2, vs2, d2, ds2, p2, q2, rfl, rfl, rfl, h2, t2⟩ := trodAll_cons t1
  obtain ⟨v3, vs3, d3, ds3, p3, q3, rfl, rfl, rfl, h3, t3⟩ := trodAll_cons t2
  obtain ⟨rfl, rfl, rfl⟩ := trodAll_nil t3
  obtain rfl : args = #[v0, v1, v2, v3] := by rw [← Array.toList_inj]; exact hargs
  have hlt := fun x hx => hW'.lt x hx
  simp only [List.append_nil] at hW'
  rw [List.append_nil] at hsz
  obtain ⟨a0, ok0, r0⟩ := opn_ca.argS Try.underlying24 (hval 0 24 v0 rfl rfl) h0 (weigh hsz 0 (t := 24) (d := d0) rfl rfl)
  obtain ⟨a1, ok1, r1⟩ := opn_bp.argS Try.underlying27 (hval 1 27 v1 rfl rfl) h1 (weigh hsz 1 (t := 27) (d := d1) rfl rfl)
  obtain ⟨a2, ok2, r2⟩ := opn_bg.argS Try.underlying29 (hval 2 29 v2 rfl rfl) h2 (weigh hsz 2 (t := 29) (d := d2) rfl rfl)
  obtain ⟨a3, ok3, r3⟩ := opn_bg.argS Try.underlying29 (hval 3 29 v3 rfl rfl) h3 (weigh hsz 3 (t := 29) (d := d3) rfl rfl)
  refine ((ApartClashes_A a0 a1 a2 a3 ok0) O0 W [_, _, _, _] (fun b h => h.elim) ⟨r0, r1, r2, r3, trivial⟩).mono fun e W' ⟨v, r, he, hr, hv, hE⟩ => ?_
  subst hr
  obtain rfl : v = .bool true := hv.2
  subst he
  exact ⟨_, rfl, post_below (pv := []) hW' (fun _ _ _ => trodAll_cons_mk (shut_bool Try.underlying4 _) trodAll_mk0)
    (fun sp hsp => trodAll_below laidOut hE (by rw [Try.params3]; intro t ht; simp only [List.mem_cons, List.not_mem_nil, or_false] at ht; rcases ht with rfl | rfl | rfl | rfl <;> exact ⟨by kernel_rfl, of_decide_eq_true (by kernel_rfl)⟩) hAk (fun x hx => hlt x (by rw [List.append_nil]; exact hx)) sp (fun x hx => hsp x (by simpa only [List.append_nil] using hx)))
    (fun _ _ => rfl) (by simp) hE (ok_one (by kernel_rfl) rfl (okWide_bool_mk Try.underlying4 _))⟩
theorem own : ownKnob Try.prog.godebug = none := by kernel_rfl
set_option maxRecDepth 100000 in
theorem lifted (os : Os) (started : os.Started) (H : Type) (enc : TypeId × Value → H) :
    ReturnsInHanded {} Try.checked os 3 .any (Rows.apartClashesSpec.pre6 enc Try.prog Try.f3 Rows.apartClashesRow.domain false) (Rows.apartClashesSpec.post enc Try.prog Try.f3 false true false false) := by
  refine returnsInHanded_of_change_sized (C := Try.checked) own started (by kernel_rfl) Try.func3
    (ChangeSpec.witness6 (enc := enc) (C := Try.checked) false ⟨#[], #[.agg #[.slice none 0 0, .slice none 0 0, .slice none 0 0, .slice none 0 0, .slice none 0 0, .int .i64 0], .agg #[.int .i64 0, .int .i64 0, .slice none 0 0], .agg #[.int .i64 0, .int .i64 0, .int .i64 0, .int .i64 0], .agg #[.int .i64 0, .int .i64 0, .int .i64 0, .int .i64 0]], []⟩ 8 (by kernel_rfl) (by kernel_rfl) (by kernel_rfl) (by kernel_rfl)) ?_
  intro W base args ds gs before hval hW _ hsz _
  exact contract H enc W base args ds gs before hval hW hsz
theorem said : Rows.ApartClashesSaid :=
  OpenClaim.holds_of_wide 3 Try.f3 rfl rfl rfl rfl rfl rfl rfl ⟨rfl, rfl, rfl, rfl, rfl⟩ rfl rfl rfl rfl rfl (by kernel_rfl) Try.func3 (by kernel_rfl)
    (of_decide_eq_true (by kernel_rfl)) (by unfold Func.isWrapper; first | (rw [if_pos (by decide +kernel)]; kernel_rfl) | (rw [if_neg (by decide +kernel)]; exact ⟨rfl, rfl⟩))
    (fun os started H enc _ => lifted os started H enc)
end Go.Proofs.Ytijaioiojclooaa.apartClashes
end
