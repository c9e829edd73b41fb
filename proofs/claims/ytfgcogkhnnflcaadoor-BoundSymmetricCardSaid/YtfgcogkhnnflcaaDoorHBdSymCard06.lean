/- BoundSymmetric: the row and the card. -/
import Derived.Test.YtfgcogkhnnflcaaDoorProg
import Derived.Test.YtfgcogkhnnflcaaDoorG01
import Derived.Test.YtfgcogkhnnflcaaDoorHBdSymCard01
import Derived.OpenShut
import Derived.SizedLaws
import Derived.ChangeSlices
import Derived.Carry
import Derived.Below
import Derived.ChangeSame
import Derived.StillTail
import Derived.Deep.Draws
import Derived.WalkKit
import Derived.KernelRfl
import Derived.Test.YtfgcogkhnnflcaaDoorCards
import Derived.Test.YtfgcogkhnnflcaaDoorTie
import Derived.Test.YtfgcogkhnnflcaaDoorHBdSymCard04
import Derived.Test.YtfgcogkhnnflcaaDoorHBdSymCard05
import Derived.ProofKit
import Derived.Deep.DeepHandedRow
import Derived.Lib.LaidTab
import Derived.Test.YtfgcogkhnnflcaaDoorG06
import Derived.Test.YtfgcogkhnnflcaaDoorRows
import Derived.Test.YtfgcogkhnnflcaaDoorG02
import Derived.LaidMore
import Derived.Deep.Strs
import Derived.Test.YtfgcogkhnnflcaaDoorG05
import Derived.Deep.DeepCutAuto
import Derived.Test.YtfgcogkhnnflcaaDoorG03
import Derived.Test.YtfgcogkhnnflcaaDoorHBdSymCard02
import Derived.Test.YtfgcogkhnnflcaaDoorG04
import Derived.Test.YtfgcogkhnnflcaaDoorHBdSymCard03
import Derived.Deep.AppendLies
import Derived.Maps.AppendAt
import Derived.OwnWalk
import Derived.Lib.Hide
import Derived.Deep.QuietTactic
import Derived.BigQuiet
import Derived.Deep.DrawnRows
import Derived.Laws.EntriesVeiled
set_option linter.unusedSimpArgs false
set_option linter.unusedVariables false
section
namespace Go.Flow
open Go Go.RowKit Go.WideShapes Go.ChangeShapes
section
variable {H : Type} {enc : TypeId × Value → H} {P : Program} {W : World}

/-- All arguments read behind the call as they did. -/
theorem trodAll_below (hl : laidOutB P = true) {W' : World} (hb : Below W.heap.size W W') : ∀ {ts : List TypeId} {vs : List Value} {ds : List (DataW H)} {ps : List MemPlace},
    (∀ t ∈ ts, P.readableRec t = true ∧ t < P.types.size) → DataW.TrodAll enc P W 0 (fun _ => true) true ts vs ds ps → (∀ p ∈ ps, p.block < W.heap.size) →
    ∀ sp : Nat → Bool, (∀ p ∈ ps, sp p.block = true) → DataW.TrodAll enc P W' 0 sp true ts vs ds ps
  | [], [], [], _, _, h, _, _, _ => h
  | _ :: _, _ :: _, _ :: _, _, hT, ⟨p, q, h1, h2, e⟩, hlt, sp, hs =>
    ⟨p, q, WideElems.Trod_stays hl (hT _ (List.mem_cons.2 (.inl rfl))).1 (hT _ (List.mem_cons.2 (.inl rfl))).2 h1
        (fun x hx => hb.same (hlt x (by rw [e]; exact List.mem_append_left _ hx))) (fun x hx => hs x (by rw [e]; exact List.mem_append_left _ hx)),
      trodAll_below hl hb (fun t ht => hT t (List.mem_cons.2 (.inr ht))) h2 (fun x hx => hlt x (by rw [e]; exact List.mem_append_right _ hx)) sp (fun x hx => hs x (by rw [e]; exact List.mem_append_right _ hx)), e⟩

theorem weigh {ts : List TypeId} {ds : List (DataW H)} (h : (DataW.weightsEach P ts ds).all (· ≤ reachBytes) = true) (j : Nat) {t : TypeId} {d : DataW H} (ht : ts[j]? = some t) (hd : ds[j]? = some d) : ∀ k ∈ d.weights P t, k ≤ reachBytes :=
  fun k hk => of_decide_eq_true (List.all_eq_true.1 h k (DataW.weights_mem_each ht hd k hk))

/-- A list of numbers that came in. -/
theorem open_intsF {t e : TypeId} {fuel : Nat} {cs : List Value} {d : DataW H} {ps : List MemPlace} (ht : P.underlying t = some (.slice e)) (he : P.underlying e = some (.int .i64)) (hc : P.cellsOf e = 1) (hby : P.bytesOf e = 8)
    (h : DataW.trod enc P W 0 (fun _ => true) true fuel t cs = some (d, ps)) (hw : ∀ k ∈ d.weights P t, k ≤ reachBytes) :
    ∃ (A : Option Addr) (n c : Nat) (f : Nat → Int), cs = [.slice A n c] ∧ n ≤ c ∧ c ≤ 4611686018427387904 ∧ Ints W A n f := by
  rcases open_ints ht he hc h with ⟨rfl, _⟩ | ⟨a, len, cap, zs, rfl, _, hl, _, hz, hx, hcell, _⟩
  · exact ⟨none, 0, 0, fun _ => 0, rfl, Nat.le_refl _, by omega, Arr.zero _ _ _⟩
  · obtain ⟨rfl, -⟩ := Prod.mk.injEq .. ▸ hx
    simp only [if_true] at hz
    have hb := hw (((lits (H := H) .i64 (zs.take len)).length + (lits (H := H) .i64 (zs.drop len)).length) * P.bytesOf e) (by simp only [DataW.weights, ht]; exact List.mem_cons_self ..)
    rw [hby] at hb
    have hr := reachBytes_lt
    have hl2 : (lits (H := H) .i64 (zs.take len)).length + (lits (H := H) .i64 (zs.drop len)).length = cap := by simp [lits]; omega
    rw [hl2] at hb
    refine ⟨some a, len, cap, fun i => zs.getD i 0, rfl, hl, by omega, fun k hk => ⟨a, rfl, hcell k (by omega)⟩⟩

/-- Two lists in an array. -/
theorem open_pairF {a t e : TypeId} {cs : Array Value} {d : DataW H} {ps : List MemPlace} (ha : P.underlying a = some (.array 2 t)) (hct : P.cellsOf t = 1) (hca : P.cellsOf a = 2) (ht : P.underlying t = some (.slice e)) (he : P.underlying e = some (.int .i64)) (hc : P.cellsOf e = 1)
    (hby : P.bytesOf e = 8) (h : DataW.Trod enc P W 0 (fun _ => true) true a (.agg cs) d ps) (hw : ∀ k ∈ d.weights P a, k ≤ reachBytes) :
    ∃ (A : Option Addr) (n c : Nat) (f : Nat → Int) (A' : Option Addr) (n' c' : Nat) (f' : Nat → Int), cs = #[.slice A n c, .slice A' n' c'] ∧ n ≤ c ∧ c ≤ 4611686018427387904 ∧ n' ≤ c' ∧ c' ≤ 4611686018427387904 ∧ Ints W A n f ∧ Ints W A' n' f' := by
  obtain ⟨fuel, hf⟩ := h
  obtain ⟨xs, m, _, hx, hl, hlen, hel⟩ := DataW.trod_array ha hf
  match xs, hlen with
  | [x0, x1], _ =>
    simp only [Prod.mk.injEq, List.map_cons, List.map_nil] at hx
    obtain ⟨rfl, -⟩ := hx
    rw [hca] at hl
    have hcs : (Value.agg cs).cells = cs := rfl
    rw [hcs] at hl hel
    match hq : cs.toList, hl with
    | [u0, u1], _ =>
      rw [hq, hct] at hel
      have e0 := hel 0 (by omega)
      have e1 := hel 1 (by omega)
      simp only [Nat.zero_mul, Nat.one_mul, List.drop_zero, List.drop_succ_cons, List.take_succ_cons, List.take_zero, List.getElem?_cons_zero, List.getElem?_cons_succ] at e0 e1
      have w0 : ∀ k ∈ x0.1.weights P t, k ≤ reachBytes := fun k hk => hw k (by simp only [DataW.weights, ha, DataW.weightsAll, List.mem_append]; exact .inl hk)
      have w1 : ∀ k ∈ x1.1.weights P t, k ≤ reachBytes := fun k hk => hw k (by simp only [DataW.weights, ha, DataW.weightsAll, List.mem_append]; exact .inr (.inl hk))
      obtain ⟨A, n, c, f, c0, h1, h2, h3⟩ := open_intsF ht he hc hby (d := x0.1) (ps := x0.2) e0 w0
      obtain ⟨A', n', c', f', c1, h1', h2', h3'⟩ := open_intsF ht he hc hby (d := x1.1) (ps := x1.2) e1 w1
      obtain rfl : u0 = .slice A n c := by simpa using c0
      obtain rfl : u1 = .slice A' n' c' := by simpa using c1
      exact ⟨A, n, c, f, A', n', c', f', by rw [← Array.toList_inj]; exact hq, h1, h2, h1', h2', h3, h3'⟩
end
section
variable {H : Type} {enc : TypeId × Value → H} {P : Program}
/-- The row's last step, of a world of which 'Below' is known. -/
theorem post_below {f : Func} {s : ChangeSpec} {apart fresh handsOn again : Bool} {W W' : World} {args : Array Value} {v : Value} {ds gs : List (DataW H)} {before pa pv : List MemPlace}
    (hW : DataW.Whole enc P f.params.toList s.vars apart W args.toList ds gs before)
    (hres : ∀ (b : Nat) (sp : Nat → Bool) (hd : Bool), DataW.TrodAll enc P W' b sp hd f.resultTypes.toList (v.resultList f.resultTypes.size) (s.fn H (ds ++ gs)).results [])
    (hargs : ∀ sp : Nat → Bool, (∀ p ∈ before, sp p.block = true) → DataW.TrodAll enc P W' 0 sp true f.params.toList args.toList (s.fn H (ds ++ gs)).args pa)
    (hvars : ∀ sp : Nat → Bool, (∀ p ∈ before, sp p.block = true) → DataW.TrodVars enc P W' sp s.vars (s.fn H (ds ++ gs)).vars pv)
    (hps : before = pa ++ pv) (hb : Below W.heap.size W W')
    (hok : ∀ (j : Nat) (t : TypeId) (r : Value), f.resultTypes[j]? = some t → (v.resultList f.resultTypes.size)[j]? = some r → Value.okWide P W' .any 0 t r) :
    s.post enc P f apart fresh handsOn again W args v W' := by
  have hlt : ∀ p ∈ before, p.block < W.heap.size := fun p hp => hW.lt p hp
  have hold : ∀ p ∈ before, (fun b => decide (b < W.heap.size)) p.block = true := fun p hp => by simpa using hlt p hp
  refine ⟨ds, gs, before, [], pa, pv, hW, hres _ _ _, hargs _ hold, hvars _ hold, World.keptBut_mono (fun p hp => ⟨hp, ?_⟩) (hb.frame (· ∈ before)), fun _ => ?_⟩
  · rw [hps, List.mem_append] at hp
    exact Or.inr hp
  · obtain ⟨_, _, _, _, _, hz, hn⟩ := hW
    refine ⟨hok, _, _, ([] ++ pa) ++ pv, ⟨[] ++ pa, pv, trodAll_append (hargs _ (fun _ _ => rfl)) (hres _ _ _), hvars _ (fun _ _ => rfl), rfl, ?_, ?_⟩, ?_⟩
    · intro b off hp
      have hin : MemPlace.cell b off ∈ before := by rw [hps]; simpa using hp
      rw [hb.frozen (hlt _ hin)]
      exact hz b off hin
    · intro ha
      have := hn ha
      rw [hps] at this
      simpa using this
    · intro p hp _
      rw [hps]
      simpa using hp
end
end Go.Flow
end

section
namespace Go.Proofs.YtfgcogkhnnflcaaDoor.boundSymmetric
open Go.ChangeShapes Go.WideShapes Go.ChangeAt Go.RowKit Go.Flow

theorem own : ownKnob Tryd.prog.godebug = none := by kernel_rfl
theorem laidOut : laidOutB Tryd.prog = true := by kernel_rfl
theorem cellsI : Tryd.prog.cellsOf 3 = 1 := by kernel_rfl
theorem cellsL : Tryd.prog.cellsOf 22 = 1 := by kernel_rfl
theorem cellsP : Tryd.prog.cellsOf 23 = 2 := by kernel_rfl
theorem bytesI : Tryd.prog.bytesOf 3 = 8 := by kernel_rfl

set_option maxRecDepth 100000 in
/-- What the walk gives, for every argument and every world that holds the variable. -/
theorem contract (H : Type) (enc : TypeId × Value → H) (W : World) (base : Nat) (args : Array Value) (ds gs : List (DataW H)) (before : List MemPlace)
    (hval : ∀ (j : Nat) t v, Tryd.f4.params[j]? = some t → args[j]? = some v → Value.okWide Tryd.prog W .any base t v)
    (hW : DataW.Whole enc Tryd.prog Tryd.f4.params.toList Rows.boundSymmetricSpec.vars false W args.toList ds gs before)
    (hsz : (DataW.weightsEach Tryd.prog (Tryd.f4.params.toList ++ (OpenSpec.ofChange Rows.boundSymmetricSpec).bare.plain.varTypes Tryd.prog) (ds ++ gs)).all (· ≤ reachBytes) = true)
    (hL : laidMetH Tryd.prog Rows.boundSymmetricRow.laid W) :
    Calls Tryd.prog 4 args W fun e W' => ∃ v, e = .returned v ∧ Rows.boundSymmetricSpec.post enc Tryd.prog Tryd.f4 false true false false W args v W' := by
  have hW' := hW
  obtain ⟨p, q, hA0, hV, rfl, hfz, hnd⟩ := hW
  have hA : DataW.TrodAll enc Tryd.prog W 0 (fun _ => true) true Tryd.f4.params.toList args.toList ds p := hA0
  have hAk := hA0
  rw [Tryd.params4] at hA hval hsz
  obtain ⟨rfl, rfl⟩ := trodVars_none hV
  obtain ⟨v0, v1, v2, d0, d1, d2, p0, p1, p2, rfl, rfl, rfl, h0, h1, h2⟩ := trodAll_three hA
  simp only [List.append_nil] at hW'
  rw [List.append_nil] at hsz
  obtain ⟨A, n, c, rfl⟩ := okWide_slice Tryd.underlying22 (hval 0 22 v0 rfl rfl)
  obtain ⟨A', n', c', rfl⟩ := okWide_slice Tryd.underlying22 (hval 1 22 v1 rfl rfl)
  have hv2 := hval 2 23 v2 rfl rfl
  unfold Value.okWide at hv2
  rw [Tryd.underlying23] at hv2
  obtain ⟨cs, rfl, -, -⟩ := hv2
  obtain ⟨fu0, g0⟩ := h0
  obtain ⟨fu1, g1⟩ := h1
  have w0 := weigh hsz 0 (t := 22) (d := d0) rfl rfl
  have w1 := weigh hsz 1 (t := 22) (d := d1) rfl rfl
  have w2 := weigh hsz 2 (t := 23) (d := d2) rfl rfl
  obtain ⟨A0, m0, k0, f0, e0, a1, a2, a3⟩ := open_intsF Tryd.underlying22 Tryd.underlying3 cellsI bytesI g0 w0
  obtain ⟨A1, m1, k1, f1, e1, b1, b2, b3⟩ := open_intsF Tryd.underlying22 Tryd.underlying3 cellsI bytesI g1 w1
  obtain ⟨B, M, d, g, B', M', d', g', rfl, c1, c2, c3, c4, c5, c6⟩ := open_pairF Tryd.underlying23 cellsL cellsP Tryd.underlying22 Tryd.underlying3 cellsI bytesI h2 w2
  obtain ⟨rfl, rfl, rfl⟩ : A = A0 ∧ n = m0 ∧ c = k0 := by simpa [Value.cells] using e0
  obtain ⟨rfl, rfl, rfl⟩ : A' = A1 ∧ n' = m1 ∧ c' = k1 := by simpa [Value.cells] using e1
  refine (BoundSymmetric_any A n c f0 A' n' c' f1 B M d g B' M' d' g' W a1 a2 b1 b2 c1 c2 c3 c4 a3 b3 c5 c6 (sides_of_laid hL)).mono fun e W' ⟨he, hE⟩ => ?_
  subst he
  have hlt : ∀ x ∈ p0 ++ p1 ++ p2, x.block < W.heap.size := fun x hx => hW'.lt x hx
  exact ⟨_, rfl, post_below (pa := p0 ++ p1 ++ p2) (pv := []) hW' (fun _ _ _ => trodAll_cons_mk (shut_bool Tryd.underlying4 _) trodAll_mk0)
    (fun sp hsp => trodAll_below laidOut hE (by rw [Tryd.params4]; intro t ht; simp only [List.mem_cons, List.not_mem_nil, or_false] at ht; rcases ht with rfl | rfl | rfl <;> exact ⟨by kernel_rfl, of_decide_eq_true (by kernel_rfl)⟩) hAk hlt sp hsp)
    (fun _ _ => rfl) (by simp) hE (ok_one (by kernel_rfl) rfl (okWide_bool_mk Tryd.underlying4 _))⟩

abbrev wargs : Array Value := #[.slice none 0 0, .slice none 0 0, .agg #[.slice none 0 0, .slice none 0 0]]
theorem laid_met (os : Os) : laidMetH Tryd.prog Rows.boundSymmetricRow.laid ((World.doorLaid Tryd.prog 600 os).forCall (fun _ _ => 0) ⟨#[], wargs, []⟩).memory :=
  laidMetH_of_parts3 (fuel := 8) (laidMet_of_run' 8 (by kernel_rfl) (by kernel_rfl)) (by kernel_rfl) (by kernel_rfl)
theorem reads (os : Os) {H : Type} (enc : TypeId × Value → H) : ∃ places, DataW.whole enc Tryd.prog ((World.doorLaid Tryd.prog 600 os).forCall (fun _ _ => 0) ⟨#[], wargs, []⟩).memory Tryd.f4.params.toList Rows.boundSymmetricSpec.vars false wargs.toList 8 = some ([.nil, .nil, .agg [.nil, .nil]], [], places) :=
  ⟨[], by kernel_rfl⟩

set_option maxRecDepth 100000 in
theorem lifted (os : Os) (started : os.Started) (H : Type) (enc : TypeId × Value → H) (F : Stop.Interp) :
    ReturnsInHanded {} Tryd.checked os 4 .any ((OpenSpec.ofChange Rows.boundSymmetricSpec).preRow enc Tryd.prog Tryd.f4 Rows.boundSymmetricRow.domain false Rows.boundSymmetricRow.laid) (((OpenSpec.ofChange Rows.boundSymmetricSpec).at F).post enc Tryd.prog Tryd.f4 false true false false) := by
  obtain ⟨places, hx⟩ := reads os enc
  refine returnsInHanded_of_row (C := Tryd.checked) (s := OpenSpec.ofChange Rows.boundSymmetricSpec) own started (by kernel_rfl) Tryd.func4
    (witness_row_at (enc := enc) (C := Tryd.checked) false (World.doorLaid Tryd.prog 600 os) wargs rfl (by kernel_rfl) (by kernel_rfl) (by kernel_rfl)
      (OpenSpec.preRow_of_cond 8 hx (by kernel_rfl) (fun k hk => by cases hk) (by kernel_rfl) (laid_met os))) ?_
  intro W base args ds gs before hval hW _ _ hsz hL _ _
  exact contract H enc W base args ds gs before hval hW hsz hL

theorem said : Rows.BoundSymmetricSaid :=
  OpenClaim.holds_of_cond 4 Tryd.f4 rfl rfl rfl rfl rfl rfl rfl ⟨rfl, rfl, rfl, rfl, rfl⟩ rfl rfl rfl rfl rfl (by kernel_rfl) Tryd.func4 (by kernel_rfl)
    (of_decide_eq_true (by kernel_rfl)) (by unfold Func.isWrapper; first | (rw [if_pos (by decide +kernel)]; kernel_rfl) | (rw [if_neg (by decide +kernel)]; exact ⟨rfl, rfl⟩))
    (fun os started H enc _ F => by rw [OpenClaim.pre_eq_preRow]; exact lifted os started H enc F)

theorem plain (f : FuncId) (fn : Func) (hf : Tryd.pinned.checked.prog.funcNamed "indelible/indeliblelaw26.BoundSymmetric" = some f) (hfn : Tryd.pinned.checked.prog.funcs[f]? = some fn) :
    false = Tryd.pinned.checked.prog.looks [] ∧ ∀ (j : Nat) t, fn.params[j]? = some t → Tryd.pinned.checked.prog.wantsStandIn t = false := by
  obtain rfl : f = 4 := Option.some.inj ((show Tryd.prog.funcNamed "indelible/indeliblelaw26.BoundSymmetric" = some 4 by kernel_rfl).symm.trans hf) |>.symm
  obtain rfl : fn = Tryd.f4 := (Option.some.inj (Tryd.func4.symm.trans hfn)).symm
  refine ⟨by kernel_rfl, fun j t ht => ?_⟩
  rw [Tryd.params4] at ht
  have ht' := Array.mem_of_getElem? ht
  simp only [List.mem_toArray, List.mem_cons, List.not_mem_nil, or_false] at ht'
  rcases ht' with rfl | rfl | rfl
  · exact (show Tryd.prog.wantsStandIn 22 = false by kernel_rfl)
  · exact (show Tryd.prog.wantsStandIn 22 = false by kernel_rfl)
  · exact (show Tryd.prog.wantsStandIn 23 = false by kernel_rfl)

/-- THE CARD. -/
theorem card : Rows.BoundSymmetricCardSaid :=
  Claim7.holds_tied_plain_at .later [] _ _ _ _ said (fun _ h => by cases h) (by kernel_rfl) (fun _ h => by cases h) boundSymmetric_row_tie rfl ⟨rfl, rfl⟩ (by kernel_rfl) rfl plain (by kernel_rfl)
end Go.Proofs.YtfgcogkhnnflcaaDoor.boundSymmetric
end
