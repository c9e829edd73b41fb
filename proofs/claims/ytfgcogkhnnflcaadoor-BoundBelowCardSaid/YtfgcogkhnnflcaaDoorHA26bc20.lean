/- BoundBelow: the row and the card. -/
import Derived.Test.YtfgcogkhnnflcaaDoorRows
import Derived.Test.YtfgcogkhnnflcaaDoorG02
import Derived.OpenShut
import Derived.LaidMore
import Derived.Deep.Strs
import Derived.Test.YtfgcogkhnnflcaaDoorProg
import Derived.Test.YtfgcogkhnnflcaaDoorG01
import Derived.Test.YtfgcogkhnnflcaaDoorHA26bc01
import Derived.WalkKit
import Derived.Lib.Hide
import Derived.Deep.QuietTactic
import Derived.BigQuiet
import Derived.Deep.DrawnRows
import Derived.StillTail
import Derived.Below
import Derived.Deep.Draws
import Derived.KernelRfl
import Derived.Test.YtfgcogkhnnflcaaDoorCards
import Derived.Test.YtfgcogkhnnflcaaDoorTie
import Derived.Test.YtfgcogkhnnflcaaDoorG20
import Derived.Test.YtfgcogkhnnflcaaDoorHA26bc18
import Derived.Test.YtfgcogkhnnflcaaDoorHA26bc19
import Derived.ProofKit
import Derived.Deep.DeepHandedRow
import Derived.Lib.LaidTab
import Derived.Test.YtfgcogkhnnflcaaDoorG19
import Derived.Test.YtfgcogkhnnflcaaDoorG11
import Derived.Test.YtfgcogkhnnflcaaDoorG06
import Derived.Test.YtfgcogkhnnflcaaDoorG18
import Derived.Test.YtfgcogkhnnflcaaDoorHA26bc17
import Derived.Test.YtfgcogkhnnflcaaDoorG14
import Derived.Test.YtfgcogkhnnflcaaDoorHA26bc04
import Derived.SizedLaws
import Derived.ChangeSlices
import Derived.Carry
import Derived.ChangeSame
import Derived.Test.YtfgcogkhnnflcaaDoorG05
import Derived.Deep.DeepCutAuto
import Derived.Test.YtfgcogkhnnflcaaDoorG03
import Derived.Test.YtfgcogkhnnflcaaDoorG07
import Derived.Test.YtfgcogkhnnflcaaDoorHA26bc16
import Derived.Test.YtfgcogkhnnflcaaDoorHA26bc10
import Derived.Test.YtfgcogkhnnflcaaDoorG13
import Derived.Test.YtfgcogkhnnflcaaDoorHA26bc03
import Derived.Laws.StructEq
import Derived.Test.YtfgcogkhnnflcaaDoorG16
import Derived.Test.YtfgcogkhnnflcaaDoorG04
import Derived.Deep.AppendLies
import Derived.Maps.AppendAt
import Derived.OwnWalk
import Derived.Test.YtfgcogkhnnflcaaDoorG10
import Derived.Laws.EntriesVeiled
import Derived.Test.YtfgcogkhnnflcaaDoorHA26bc15
import Derived.Test.YtfgcogkhnnflcaaDoorHA26bc02
import Derived.Great.BuildSlice
import Derived.Scope
import Derived.Test.YtfgcogkhnnflcaaDoorHA26bc13
import Derived.Test.YtfgcogkhnnflcaaDoorHA26bc14
import Derived.Test.YtfgcogkhnnflcaaDoorG12
import Derived.Test.YtfgcogkhnnflcaaDoorG09
import Derived.RangeFuncLeaves
import Derived.RangeFuncRecord
import Derived.Shelf.Abstract
import Derived.Test.YtfgcogkhnnflcaaDoorG08
import Derived.Test.YtfgcogkhnnflcaaDoorG17
import Derived.Test.YtfgcogkhnnflcaaDoorHA26bc12
import Derived.RangeFuncNested
import Derived.OrdersIn
import Derived.TacticsIn
import Derived.RangeFuncCalls
import Derived.Laws.Cover3
import Derived.Test.YtfgcogkhnnflcaaDoorHA26bc09
import Derived.Test.YtfgcogkhnnflcaaDoorHA26bc08
import Derived.Test.YtfgcogkhnnflcaaDoorHA26bc11
import Derived.Test.YtfgcogkhnnflcaaDoorHA26bc07
import Derived.Test.YtfgcogkhnnflcaaDoorHA26bc06
import Derived.Test.YtfgcogkhnnflcaaDoorHA26bc05
import Derived.Test.YtfgcogkhnnflcaaDoorG15
set_option linter.unusedSimpArgs false
set_option linter.unusedVariables false
section
namespace Go.Proofs.YtfgcogkhnnflcaaDoor
open Go.RowKit Go.Flow Go.Deep
open Go.Proofs

theorem gSides : Tryd.prog.globalNamed "indelible/bound.sides" = some 0 := by kernel_rfl
theorem tSides : (Tryd.prog.globals[0]?).map (·.type) = some 69 := by kernel_rfl
theorem cellsSides : Tryd.prog.cellsOf 69 = 6 := by kernel_rfl
theorem cellsSide : Tryd.prog.cellsOf 68 = 3 := by kernel_rfl
theorem cellsF1 : Tryd.prog.cellsOf 47 = 1 := by kernel_rfl
theorem cellsF2 : Tryd.prog.cellsOf 66 = 1 := by kernel_rfl
theorem cellsF3 : Tryd.prog.cellsOf 4 = 1 := by kernel_rfl

theorem side_open {W : World} {fuel : Nat} {c0 c1 c2 : Value} {q : List MemPlace} {b : UInt8} {r : List UInt8} {b' : UInt8} {r' : List UInt8} {v : Bool} {f0 f1 : FuncId}
    (h0 : ((List.range Tryd.prog.funcs.size).filter fun f => (Tryd.prog.funcs[f]?).any (·.name.toUTF8.data.toList == b :: r)) = [f0])
    (h1 : ((List.range Tryd.prog.funcs.size).filter fun f => (Tryd.prog.funcs[f]?).any (·.name.toUTF8.data.toList == b' :: r')) = [f1])
    (h : DataW.trod (funcToken Tryd.prog) Tryd.prog W 0 (fun _ => true) true fuel 68 [c0, c1, c2] = some (.agg [.held (b :: r), .held (b' :: r'), .lit (.bool v)], q)) :
    c0 = .func (.func f0) #[] #[] ∧ c1 = .func (.func f1) #[] #[] ∧ c2 = .bool v := by
  obtain ⟨y0, y1, y2, n, hx, _, g0, g1, g2⟩ := trod_struct3 Tryd.underlying68 h
  obtain ⟨d0, p0⟩ := y0
  obtain ⟨d1, p1⟩ := y1
  obtain ⟨d2, p2⟩ := y2
  simp only [Prod.mk.injEq, DataW.agg.injEq, List.cons.injEq, and_true] at hx
  obtain ⟨⟨rfl, rfl, rfl⟩, -⟩ := hx
  simp only [cellsF1, cellsF2, cellsF3] at g0 g1 g2
  refine ⟨func_of_trod Tryd.underlying47 h0 g0, func_of_trod Tryd.underlying66 h1 g1, ?_⟩
  cases n with
  | zero => simp [DataW.trod] at g2
  | succ n =>
    simp only [List.drop_succ_cons, List.drop_zero, List.take_succ_cons, List.take_zero] at g2
    cases c2 <;> simp [DataW.trod, Tryd.underlying4] at g2
    obtain ⟨rfl, -⟩ := g2
    rfl

theorem sides_of_laid {W : World} (h : laidMetH Tryd.prog [("indelible/bound.sides", Rows.laid_indelible_bound_sides)] W) : Sides W := by
  obtain ⟨g, t, cs, fuel, p, hg, ht, hv, hd⟩ := h.funcs (List.mem_singleton.2 rfl)
  obtain rfl := Option.some.inj (gSides.symm.trans hg)
  obtain rfl := Option.some.inj (tSides.symm.trans ht)
  obtain ⟨xs, m, _, hx, hl, hlen, hel⟩ := DataW.trod_array Tryd.underlying69 hd
  rw [cellsSides] at hl
  rw [cellsSide] at hel
  match xs, hlen with
  | [x0, x1], _ =>
    match hq : cs.toList, hl with
    | [c0, c1, c2, c3, c4, c5], _ =>
      rw [hq] at hel
      have e0 := hel 0 (by omega)
      have e1 := hel 1 (by omega)
      simp only [Nat.zero_mul, Nat.one_mul, List.drop_zero, List.drop_succ_cons, List.take_succ_cons, List.take_zero, List.getElem?_cons_zero, List.getElem?_cons_succ] at e0 e1
      obtain ⟨d0, p0⟩ := x0
      obtain ⟨d1, p1⟩ := x1
      have hx1 : DataW.agg [d0, d1] = _ := (Prod.mk.inj hx).1.symm
      have hd0 := (List.cons.inj (DataW.agg.inj hx1)).1
      have hd1 := (List.cons.inj (List.cons.inj (DataW.agg.inj hx1)).2).1
      subst hd0
      subst hd1
      obtain ⟨rfl, rfl, rfl⟩ := side_open (f0 := 83) (f1 := 84) (by kernel_rfl) (by kernel_rfl) e0
      obtain ⟨rfl, rfl, rfl⟩ := side_open (f0 := 85) (f1 := 86) (by kernel_rfl) (by kernel_rfl) e1
      refine ⟨fun i hi => ?_⟩
      have hcs : cs = sidesCells := by rw [← Array.toList_inj]; exact hq
      have := World.var?_cell hg hv i
      rw [hcs] at this
      exact this
end Go.Proofs.YtfgcogkhnnflcaaDoor
end

section
namespace Go.Proofs.YtfgcogkhnnflcaaDoor.boundBelow
open Go.ChangeShapes Go.WideShapes Go.ChangeAt Go.RowKit Go.Flow Go.AV
theorem own : ownKnob Tryd.prog.godebug = none := by kernel_rfl
theorem laidOut : laidOutB Tryd.prog = true := by kernel_rfl
set_option maxRecDepth 100000 in
theorem contract (H : Type) (enc : TypeId × Value → H) (W : World) (base : Nat) (args : Array Value) (ds gs : List (DataW H)) (before : List MemPlace)
    (hval : ∀ (j : Nat) t v, Tryd.f6.params[j]? = some t → args[j]? = some v → Value.okWide Tryd.prog W .any base t v)
    (hW : DataW.Whole enc Tryd.prog Tryd.f6.params.toList Rows.boundBelowSpec.vars false W args.toList ds gs before)
    (hsz : (DataW.weightsEach Tryd.prog (Tryd.f6.params.toList ++ (OpenSpec.ofChange Rows.boundBelowSpec).bare.plain.varTypes Tryd.prog) (ds ++ gs)).all (· ≤ reachBytes) = true)
    (hL : laidMetH Tryd.prog Rows.boundBelowRow.laid W) :
    Calls Tryd.prog 6 args W fun e W' => ∃ v, e = .returned v ∧ Rows.boundBelowSpec.post enc Tryd.prog Tryd.f6 false true false false W args v W' := by
  have hW' := hW
  obtain ⟨p, q, hA0, hV, rfl, hfz, hnd⟩ := hW
  have hA : DataW.TrodAll enc Tryd.prog W 0 (fun _ => true) true Tryd.f6.params.toList args.toList ds p := hA0
  have hAk := hA0
  rw [Tryd.params6] at hA hval hsz
  obtain ⟨rfl, rfl⟩ := trodVars_none hV
  obtain ⟨v0, vs0, d0, ds0, p0, q0, hargs, rfl, rfl, h0, t0⟩ := trodAll_cons hA
  obtain ⟨v1, vs1, d1, ds1, p1, q1, rfl, rfl, rfl, h1, t1⟩ := trodAll_cons t0
  obtain ⟨v2, vs2, d2, ds2, p2, q2, rfl, rfl, rfl, h2, t2⟩ := trodAll_cons t1
  obtain ⟨rfl, rfl, rfl⟩ := trodAll_nil t2
  obtain rfl : args = #[v0, v1, v2] := by rw [← Array.toList_inj]; exact hargs
  have hlt := fun x hx => hW'.lt x hx
  simp only [List.append_nil] at hW'
  rw [List.append_nil] at hsz
  obtain ⟨a0, ok0, r0⟩ := opn_ints.argC (cells_slice Tryd.underlying22 (hval 0 22 v0 rfl rfl)) h0 (weigh hsz 0 (t := 22) (d := d0) rfl rfl)
  obtain ⟨a1, ok1, r1⟩ := opn_ints.argC (cells_slice Tryd.underlying22 (hval 1 22 v1 rfl rfl)) h1 (weigh hsz 1 (t := 22) (d := d1) rfl rfl)
  obtain ⟨a2, ok2, r2⟩ := opn_pair.argA Tryd.underlying23 (hval 2 23 v2 rfl rfl) h2 (weigh hsz 2 (t := 23) (d := d2) rfl rfl)
  refine ((BoundBelow_W a0.length (fun k => a0.getD k 0) a1.length (fun k => a1.getD k 0) a2.1.length (fun k => a2.1.getD k 0) a2.2.length (fun k => a2.2.getD k 0)) O0 W [_, _, _] (fun b h => h.elim) ⟨r0, r1, r2, trivial⟩ (sides_of_laid hL)).mono fun e W' ⟨v, r, he, hr, hv, hE⟩ => ?_
  subst hr
  obtain rfl : v = .bool true := hv.2
  subst he
  exact ⟨_, rfl, post_below (pv := []) hW' (fun _ _ _ => trodAll_cons_mk (shut_bool Tryd.underlying4 _) trodAll_mk0)
    (fun sp hsp => trodAll_below laidOut hE (by rw [Tryd.params6]; intro t ht; simp only [List.mem_cons, List.not_mem_nil, or_false] at ht; rcases ht with rfl | rfl | rfl <;> exact ⟨by kernel_rfl, of_decide_eq_true (by kernel_rfl)⟩) hAk (fun x hx => hlt x (by rw [List.append_nil]; exact hx)) sp (fun x hx => hsp x (by simpa only [List.append_nil] using hx)))
    (fun _ _ => rfl) (by simp) hE (ok_one (by kernel_rfl) rfl (okWide_bool_mk Tryd.underlying4 _))⟩
abbrev wargs : Array Value := #[.slice none 0 0, .slice none 0 0, .agg #[.slice none 0 0, .slice none 0 0]]
theorem laid_met (os : Os) : laidMetH Tryd.prog Rows.boundBelowRow.laid ((World.doorLaid Tryd.prog 600 os).forCall (fun _ _ => 0) ⟨#[], wargs, []⟩).memory :=
  laidMetH_of_parts3 (fuel := 8) (laidMet_of_run' 8 (by kernel_rfl) (by kernel_rfl)) (by kernel_rfl) (by kernel_rfl)
theorem reads (os : Os) {H : Type} (enc : TypeId × Value → H) : ∃ places, DataW.whole enc Tryd.prog ((World.doorLaid Tryd.prog 600 os).forCall (fun _ _ => 0) ⟨#[], wargs, []⟩).memory Tryd.f6.params.toList Rows.boundBelowSpec.vars false wargs.toList 8 = some ([.nil, .nil, .agg [.nil, .nil]], [], places) :=
  ⟨[], by kernel_rfl⟩

set_option maxRecDepth 100000 in
theorem lifted (os : Os) (started : os.Started) (H : Type) (enc : TypeId × Value → H) (F : Stop.Interp) :
    ReturnsInHanded {} Tryd.checked os 6 .any ((OpenSpec.ofChange Rows.boundBelowSpec).preRow enc Tryd.prog Tryd.f6 Rows.boundBelowRow.domain false Rows.boundBelowRow.laid) (((OpenSpec.ofChange Rows.boundBelowSpec).at F).post enc Tryd.prog Tryd.f6 false true false false) := by
  obtain ⟨places, hx⟩ := reads os enc
  refine returnsInHanded_of_row (C := Tryd.checked) (s := OpenSpec.ofChange Rows.boundBelowSpec) own started (by kernel_rfl) Tryd.func6
    (witness_row_at (enc := enc) (C := Tryd.checked) false (World.doorLaid Tryd.prog 600 os) wargs rfl (by kernel_rfl) (by kernel_rfl) (by kernel_rfl)
      (OpenSpec.preRow_of_cond 8 hx (by kernel_rfl) (fun k hk => by cases hk) (by kernel_rfl) (laid_met os))) ?_
  intro W base args ds gs before hval hW _ _ hsz hL _ _
  exact contract H enc W base args ds gs before hval hW hsz hL

theorem said : Rows.BoundBelowSaid :=
  OpenClaim.holds_of_cond 6 Tryd.f6 rfl rfl rfl rfl rfl rfl rfl ⟨rfl, rfl, rfl, rfl, rfl⟩ rfl rfl rfl rfl rfl (by kernel_rfl) Tryd.func6 (by kernel_rfl)
    (of_decide_eq_true (by kernel_rfl)) (by unfold Func.isWrapper; first | (rw [if_pos (by decide +kernel)]; kernel_rfl) | (rw [if_neg (by decide +kernel)]; exact ⟨rfl, rfl⟩))
    (fun os started H enc _ F => by rw [OpenClaim.pre_eq_preRow]; exact lifted os started H enc F)

theorem plain (f : FuncId) (fn : Func) (hf : Tryd.pinned.checked.prog.funcNamed "indelible/indeliblelaw26.BoundBelow" = some f) (hfn : Tryd.pinned.checked.prog.funcs[f]? = some fn) :
    false = Tryd.pinned.checked.prog.looks [] ∧ ∀ (j : Nat) t, fn.params[j]? = some t → Tryd.pinned.checked.prog.wantsStandIn t = false := by
  obtain rfl : f = 6 := Option.some.inj ((show Tryd.prog.funcNamed "indelible/indeliblelaw26.BoundBelow" = some 6 by kernel_rfl).symm.trans hf) |>.symm
  obtain rfl : fn = Tryd.f6 := (Option.some.inj (Tryd.func6.symm.trans hfn)).symm
  refine ⟨by kernel_rfl, fun j t ht => ?_⟩
  rw [Tryd.params6] at ht
  have ht' := Array.mem_of_getElem? ht
  simp only [List.mem_toArray, List.mem_cons, List.not_mem_nil, or_false] at ht'
  rcases ht' with rfl | rfl | rfl
  · exact (show Tryd.prog.wantsStandIn 22 = false by kernel_rfl)
  · exact (show Tryd.prog.wantsStandIn 22 = false by kernel_rfl)
  · exact (show Tryd.prog.wantsStandIn 23 = false by kernel_rfl)

/-- THE CARD. -/
theorem card : Rows.BoundBelowCardSaid :=
  Claim7.holds_tied_plain_at .later [] _ _ _ _ said (fun _ h => by cases h) (by kernel_rfl) (fun _ h => by cases h) boundBelow_row_tie rfl ⟨rfl, rfl⟩ (by kernel_rfl) rfl plain (by kernel_rfl)
end Go.Proofs.YtfgcogkhnnflcaaDoor.boundBelow
end
