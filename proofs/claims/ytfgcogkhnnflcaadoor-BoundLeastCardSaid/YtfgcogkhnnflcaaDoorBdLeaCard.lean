/- BoundLeast: the row and the card. -/
import Derived.Test.YtfgcogkhnnflcaaDoorCards
import Derived.Test.YtfgcogkhnnflcaaDoorTie
import Derived.Test.YtfgcogkhnnflcaaDoorBdLea
import Derived.Test.YtfgcogkhnnflcaaDoorBdLaid
import Derived.Test.YtfgcogkhnnflcaaDoorArgs2
import Derived.WalkKit
import Derived.ProofKit
import Derived.OpenShut
import Derived.Deep.DeepHandedRow
import Derived.Lib.LaidTab
namespace Go.Proofs.YtfgcogkhnnflcaaDoor.boundLeast
open Go.ChangeShapes Go.WideShapes Go.ChangeAt Go.RowKit Go.Flow

theorem own : ownKnob Tryd.prog.godebug = none := by kernel_rfl
theorem laidOut : laidOutB Tryd.prog = true := by kernel_rfl
theorem cellsI : Tryd.prog.cellsOf 3 = 1 := by kernel_rfl
theorem cellsL : Tryd.prog.cellsOf 22 = 1 := by kernel_rfl
theorem cellsP : Tryd.prog.cellsOf 23 = 2 := by kernel_rfl
theorem cellsZ : Tryd.prog.cellsOf 26 = 8 := by kernel_rfl
theorem typesZ : Tryd.prog.cellTypes Tryd.prog.depth 26 = some (List.replicate 8 3) := by kernel_rfl
theorem bytesI : Tryd.prog.bytesOf 3 = 8 := by kernel_rfl

set_option maxRecDepth 100000 in
/-- What the walk gives, for every argument and every world that holds the variable. -/
theorem contract (H : Type) (enc : TypeId × Value → H) (W : World) (base : Nat) (args : Array Value) (ds gs : List (DataW H)) (before : List MemPlace)
    (hval : ∀ (j : Nat) t v, Tryd.f3.params[j]? = some t → args[j]? = some v → Value.okWide Tryd.prog W .any base t v)
    (hW : DataW.Whole enc Tryd.prog Tryd.f3.params.toList Rows.boundLeastSpec.vars false W args.toList ds gs before)
    (hsz : (DataW.weightsEach Tryd.prog (Tryd.f3.params.toList ++ (OpenSpec.ofChange Rows.boundLeastSpec).bare.plain.varTypes Tryd.prog) (ds ++ gs)).all (· ≤ reachBytes) = true)
    (hL : laidMetH Tryd.prog Rows.boundLeastRow.laid W) :
    Calls Tryd.prog 3 args W fun e W' => ∃ v, e = .returned v ∧ Rows.boundLeastSpec.post enc Tryd.prog Tryd.f3 false true false false W args v W' := by
  have hW' := hW
  obtain ⟨p, q, hA0, hV, rfl, hfz, hnd⟩ := hW
  have hA : DataW.TrodAll enc Tryd.prog W 0 (fun _ => true) true Tryd.f3.params.toList args.toList ds p := hA0
  have hAk := hA0
  rw [Tryd.params3] at hA hval hsz
  obtain ⟨rfl, rfl⟩ := trodVars_none hV
  obtain ⟨v0, vs0, d0, ds0, p0, q0, hargs, rfl, rfl, h0, t0⟩ := trodAll_cons hA
  obtain ⟨v1, vs1, d1, ds1, p1, q1, rfl, rfl, rfl, h1, t1⟩ := trodAll_cons t0
  obtain ⟨v2, vs2, d2, ds2, p2, q2, rfl, rfl, rfl, h2, t2⟩ := trodAll_cons t1
  obtain ⟨v3, vs3, d3, ds3, p3, q3, rfl, rfl, rfl, h3, t3⟩ := trodAll_cons t2
  obtain ⟨v4, vs4, d4, ds4, p4, q4, rfl, rfl, rfl, h4, t4⟩ := trodAll_cons t3
  obtain ⟨rfl, rfl, rfl⟩ := trodAll_nil t4
  obtain rfl : args = #[v0, v1, v2, v3, v4] := by rw [← Array.toList_inj]; exact hargs
  clear hargs t0 t1 t2 t3 t4
  simp only [List.append_nil] at hW'
  rw [List.append_nil] at hsz
  obtain ⟨A, n, c, rfl⟩ := okWide_slice Tryd.underlying22 (hval 0 22 v0 rfl rfl)
  obtain ⟨A', n', c', rfl⟩ := okWide_slice Tryd.underlying22 (hval 1 22 v1 rfl rfl)
  have hv2 := hval 2 23 v2 rfl rfl
  unfold Value.okWide at hv2
  rw [Tryd.underlying23] at hv2
  obtain ⟨cs, rfl, -, -⟩ := hv2
  have hv3 := hval 3 26 v3 rfl rfl
  unfold Value.okWide at hv3
  rw [Tryd.underlying26] at hv3
  obtain ⟨zs, rfl, hz1, hz2⟩ := hv3
  rw [cellsZ] at hz1
  obtain ⟨zf, hzf⟩ := row_ints typesZ Tryd.underlying3 hz1 hz2
  obtain rfl := eight hz1 hzf
  obtain ⟨V, rfl, rfl, rfl, -⟩ := open_int Tryd.underlying3 (hval 4 3 v4 rfl rfl) h4
  obtain ⟨fu0, g0⟩ := h0
  obtain ⟨fu1, g1⟩ := h1
  have w0 := weigh hsz 0 (t := 22) (d := d0) rfl rfl
  have w1 := weigh hsz 1 (t := 22) (d := d1) rfl rfl
  have w2 := weigh hsz 2 (t := 23) (d := d2) rfl rfl
  obtain ⟨A0, m0, k0, f0, e0, a1, a2, a3⟩ := open_intsF Tryd.underlying22 Tryd.underlying3 cellsI bytesI g0 w0
  obtain ⟨A1, m1, k1, f1, e1, b1, b2, b3⟩ := open_intsF Tryd.underlying22 Tryd.underlying3 cellsI bytesI g1 w1
  obtain ⟨B, M, d, g, B', M', d', g', rfl, c1, c2, c3, c4, c5, c6⟩ := open_pairF Tryd.underlying23 cellsL cellsP Tryd.underlying22 Tryd.underlying3 cellsI bytesI h2 w2
  obtain ⟨rfl, rfl, rfl⟩ : A = A0 ∧ n = m0 ∧ c = k0 := by simpa [Value.cells] using e0
  obtain ⟨rfl, rfl, rfl⟩ : A' = A1 ∧ n' = m1 ∧ c' = k1 := by simpa [Value.cells] using e1
  refine (BoundLeast_any A n c f0 A' n' c' f1 B M d g B' M' d' g' (zf 0) (zf 1) (zf 2) (zf 3) (zf 4) (zf 5) (zf 6) (zf 7) V W a1 a2 b1 b2 c1 c2 c3 c4 a3 b3 c5 c6 (sides_of_laid hL)).mono fun e W' ⟨he, hE⟩ => ?_
  subst he
  have hlt := fun x hx => hW'.lt x hx
  exact ⟨_, rfl, post_below (pv := []) hW' (fun _ _ _ => trodAll_cons_mk (shut_bool Tryd.underlying4 _) trodAll_mk0)
    (fun sp hsp => trodAll_below laidOut hE (by rw [Tryd.params3]; intro t ht; simp only [List.mem_cons, List.not_mem_nil, or_false] at ht; rcases ht with rfl | rfl | rfl | rfl | rfl <;> exact ⟨by kernel_rfl, of_decide_eq_true (by kernel_rfl)⟩) hAk hlt sp hsp)
    (fun _ _ => rfl) (by simp) hE (ok_one (by kernel_rfl) rfl (okWide_bool_mk Tryd.underlying4 _))⟩

abbrev wargs : Array Value := #[.slice none 0 0, .slice none 0 0, .agg #[.slice none 0 0, .slice none 0 0], .agg #[.int .i64 0, .int .i64 0, .int .i64 0, .int .i64 0, .int .i64 0, .int .i64 0, .int .i64 0, .int .i64 0], .int .i64 0]
theorem laid_met (os : Os) : laidMetH Tryd.prog Rows.boundLeastRow.laid ((World.doorLaid Tryd.prog 600 os).forCall (fun _ _ => 0) ⟨#[], wargs, []⟩).memory :=
  laidMetH_of_parts3 (fuel := 8) (laidMet_of_run' 8 (by kernel_rfl) (by kernel_rfl)) (by kernel_rfl) (by kernel_rfl)
theorem reads (os : Os) {H : Type} (enc : TypeId × Value → H) : ∃ places, DataW.whole enc Tryd.prog ((World.doorLaid Tryd.prog 600 os).forCall (fun _ _ => 0) ⟨#[], wargs, []⟩).memory Tryd.f3.params.toList Rows.boundLeastSpec.vars false wargs.toList 8 = some ([.nil, .nil, .agg [.nil, .nil], .agg [.agg [.lit (.int .i64 0), .lit (.int .i64 0), .lit (.int .i64 0), .lit (.int .i64 0)], .agg [.lit (.int .i64 0), .lit (.int .i64 0), .lit (.int .i64 0), .lit (.int .i64 0)]], .lit (.int .i64 0)], [], places) :=
  ⟨[], by kernel_rfl⟩

set_option maxRecDepth 100000 in
theorem lifted (os : Os) (started : os.Started) (H : Type) (enc : TypeId × Value → H) (F : Stop.Interp) :
    ReturnsInHanded {} Tryd.checked os 3 .any ((OpenSpec.ofChange Rows.boundLeastSpec).preRow enc Tryd.prog Tryd.f3 Rows.boundLeastRow.domain false Rows.boundLeastRow.laid) (((OpenSpec.ofChange Rows.boundLeastSpec).at F).post enc Tryd.prog Tryd.f3 false true false false) := by
  obtain ⟨places, hx⟩ := reads os enc
  refine returnsInHanded_of_row (C := Tryd.checked) (s := OpenSpec.ofChange Rows.boundLeastSpec) own started (by kernel_rfl) Tryd.func3
    (witness_row_at (enc := enc) (C := Tryd.checked) false (World.doorLaid Tryd.prog 600 os) wargs rfl (by kernel_rfl) (by kernel_rfl) (by kernel_rfl)
      (OpenSpec.preRow_of_cond 8 hx (by kernel_rfl) (fun k hk => by cases hk) (by kernel_rfl) (laid_met os))) ?_
  intro W base args ds gs before hval hW _ _ hsz hL _ _
  exact contract H enc W base args ds gs before hval hW hsz hL

theorem said : Rows.BoundLeastSaid :=
  OpenClaim.holds_of_cond 3 Tryd.f3 rfl rfl rfl rfl rfl rfl rfl ⟨rfl, rfl, rfl, rfl, rfl⟩ rfl rfl rfl rfl rfl (by kernel_rfl) Tryd.func3 (by kernel_rfl)
    (of_decide_eq_true (by kernel_rfl)) (by unfold Func.isWrapper; first | (rw [if_pos (by decide +kernel)]; kernel_rfl) | (rw [if_neg (by decide +kernel)]; exact ⟨rfl, rfl⟩))
    (fun os started H enc _ F => by rw [OpenClaim.pre_eq_preRow]; exact lifted os started H enc F)

theorem plain (f : FuncId) (fn : Func) (hf : Tryd.pinned.checked.prog.funcNamed "indelible/indeliblelaw26.BoundLeast" = some f) (hfn : Tryd.pinned.checked.prog.funcs[f]? = some fn) :
    false = Tryd.pinned.checked.prog.looks [] ∧ ∀ (j : Nat) t, fn.params[j]? = some t → Tryd.pinned.checked.prog.wantsStandIn t = false := by
  obtain rfl : f = 3 := Option.some.inj ((show Tryd.prog.funcNamed "indelible/indeliblelaw26.BoundLeast" = some 3 by kernel_rfl).symm.trans hf) |>.symm
  obtain rfl : fn = Tryd.f3 := (Option.some.inj (Tryd.func3.symm.trans hfn)).symm
  refine ⟨by kernel_rfl, fun j t ht => ?_⟩
  rw [Tryd.params3] at ht
  have ht' := Array.mem_of_getElem? ht
  simp only [List.mem_toArray, List.mem_cons, List.not_mem_nil, or_false] at ht'
  rcases ht' with rfl | rfl | rfl | rfl | rfl
  · exact (show Tryd.prog.wantsStandIn 22 = false by kernel_rfl)
  · exact (show Tryd.prog.wantsStandIn 22 = false by kernel_rfl)
  · exact (show Tryd.prog.wantsStandIn 23 = false by kernel_rfl)
  · exact (show Tryd.prog.wantsStandIn 26 = false by kernel_rfl)
  · exact (show Tryd.prog.wantsStandIn 3 = false by kernel_rfl)

/-- THE CARD. -/
theorem card : Rows.BoundLeastCardSaid :=
  Claim7.holds_tied_plain_at .later [] _ _ _ _ said (fun _ h => by cases h) (by kernel_rfl) (fun _ h => by cases h) boundLeast_row_tie rfl ⟨rfl, rfl⟩ (by kernel_rfl) rfl plain (by kernel_rfl)
end Go.Proofs.YtfgcogkhnnflcaaDoor.boundLeast
