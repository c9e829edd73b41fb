/- What a row's arguments are to a walk: lists of numbers. No condition. -/
import Derived.Test.YtfgcogkhnnflcaaDoorProg
import Derived.Test.YtfgcogkhnnflcaaDoorBase
import Derived.OpenShut
import Derived.SizedLaws
import Derived.ChangeSlices
import Derived.Carry
import Derived.Below
import Derived.ChangeSame
namespace Go.Flow
open Go Go.RowKit Go.WideShapes Go.ChangeShapes
section
variable {H : Type} {enc : TypeId × Value → H} {P : Program} {W : World}

/-- All arguments read behind the call as they did. -/
theorem trodAll_below (hl : laidOutB P = true) {W' : World} (hb : Below W.heap.size W W') : ∀ {ts : List TypeId} {vs : List Value} {ds : List (DataW H)} {ps : List MemPlace},
    (∀ t ∈ ts, P.readableRec t = true ∧ t < P.types.size) → DataW.TrodAll enc P W 0 (fun _ => true) true ts vs ds ps → (∀ p ∈ ps, p.block < W.heap.size) →
    ∀ sp : Nat → Bool, (∀ p ∈ ps, sp p.block = true) → DataW.TrodAll enc P W' 0 sp true ts vs ds ps
  | [], [], [], _, _, h, _, _, _ => h
  | _ :: _, _ :: _, _ :: _, _, hT, ⟨p, q, h1, h2, e⟩, hlt, sp, hs =>
    ⟨p, q, WideElems.Trod_stays hl (hT _ (List.mem_cons.2 (.inl rfl))).1 (hT _ (List.mem_cons.2 (.inl rfl))).2 h1
        (fun x hx => hb.same (hlt x (by rw [e]; exact List.mem_append_left _ hx))) (fun x hx => hs x (by rw [e]; exact List.mem_append_left _ hx)),
      trodAll_below hl hb (fun t ht => hT t (List.mem_cons.2 (.inr ht))) h2 (fun x hx => hlt x (by rw [e]; exact List.mem_append_right _ hx)) sp (fun x hx => hs x (by rw [e]; exact List.mem_append_right _ hx)), e⟩

theorem weigh {ts : List TypeId} {ds : List (DataW H)} (h : (DataW.weightsEach P ts ds).all (· ≤ reachBytes) = true) (j : Nat) {t : TypeId} {d : DataW H} (ht : ts[j]? = some t) (hd : ds[j]? = some d) : ∀ k ∈ d.weights P t, k ≤ reachBytes :=
  fun k hk => of_decide_eq_true (List.all_eq_true.1 h k (DataW.weights_mem_each ht hd k hk))

/-- A list of numbers that came in. -/
theorem open_intsF {t e : TypeId} {fuel : Nat} {cs : List Value} {d : DataW H} {ps : List MemPlace} (ht : P.underlying t = some (.slice e)) (he : P.underlying e = some (.int .i64)) (hc : P.cellsOf e = 1) (hby : P.bytesOf e = 8)
    (h : DataW.trod enc P W 0 (fun _ => true) true fuel t cs = some (d, ps)) (hw : ∀ k ∈ d.weights P t, k ≤ reachBytes) :
    ∃ (A : Option Addr) (n c : Nat) (f : Nat → Int), cs = [.slice A n c] ∧ n ≤ c ∧ c ≤ 4611686018427387904 ∧ Ints W A n f := by
  rcases open_ints ht he hc h with ⟨rfl, _⟩ | ⟨a, len, cap, zs, rfl, _, hl, _, hz, hx, hcell, _⟩
  · exact ⟨none, 0, 0, fun _ => 0, rfl, Nat.le_refl _, by omega, Arr.zero _ _ _⟩
  · obtain ⟨rfl, -⟩ := Prod.mk.injEq .. ▸ hx
    simp only [if_true] at hz
    have hb := hw (((lits (H := H) .i64 (zs.take len)).length + (lits (H := H) .i64 (zs.drop len)).length) * P.bytesOf e) (by simp only [DataW.weights, ht]; exact List.mem_cons_self ..)
    rw [hby] at hb
    have hr := reachBytes_lt
    have hl2 : (lits (H := H) .i64 (zs.take len)).length + (lits (H := H) .i64 (zs.drop len)).length = cap := by simp [lits]; omega
    rw [hl2] at hb
    refine ⟨some a, len, cap, fun i => zs.getD i 0, rfl, hl, by omega, fun k hk => ⟨a, rfl, hcell k (by omega)⟩⟩

/-- Two lists in an array. -/
theorem open_pairF {a t e : TypeId} {cs : Array Value} {d : DataW H} {ps : List MemPlace} (ha : P.underlying a = some (.array 2 t)) (hct : P.cellsOf t = 1) (hca : P.cellsOf a = 2) (ht : P.underlying t = some (.slice e)) (he : P.underlying e = some (.int .i64)) (hc : P.cellsOf e = 1)
    (hby : P.bytesOf e = 8) (h : DataW.Trod enc P W 0 (fun _ => true) true a (.agg cs) d ps) (hw : ∀ k ∈ d.weights P a, k ≤ reachBytes) :
    ∃ (A : Option Addr) (n c : Nat) (f : Nat → Int) (A' : Option Addr) (n' c' : Nat) (f' : Nat → Int), cs = #[.slice A n c, .slice A' n' c'] ∧ n ≤ c ∧ c ≤ 4611686018427387904 ∧ n' ≤ c' ∧ c' ≤ 4611686018427387904 ∧ Ints W A n f ∧ Ints W A' n' f' := by
  obtain ⟨fuel, hf⟩ := h
  obtain ⟨xs, m, _, hx, hl, hlen, hel⟩ := DataW.trod_array ha hf
  match xs, hlen with
  | [x0, x1], _ =>
    simp only [Prod.mk.injEq, List.map_cons, List.map_nil] at hx
    obtain ⟨rfl, -⟩ := hx
    rw [hca] at hl
    have hcs : (Value.agg cs).cells = cs := rfl
    rw [hcs] at hl hel
    match hq : cs.toList, hl with
    | [u0, u1], _ =>
      rw [hq, hct] at hel
      have e0 := hel 0 (by omega)
      have e1 := hel 1 (by omega)
      simp only [Nat.zero_mul, Nat.one_mul, List.drop_zero, List.drop_succ_cons, List.take_succ_cons, List.take_zero, List.getElem?_cons_zero, List.getElem?_cons_succ] at e0 e1
      have w0 : ∀ k ∈ x0.1.weights P t, k ≤ reachBytes := fun k hk => hw k (by simp only [DataW.weights, ha, DataW.weightsAll, List.mem_append]; exact .inl hk)
      have w1 : ∀ k ∈ x1.1.weights P t, k ≤ reachBytes := fun k hk => hw k (by simp only [DataW.weights, ha, DataW.weightsAll, List.mem_append]; exact .inr (.inl hk))
      obtain ⟨A, n, c, f, c0, h1, h2, h3⟩ := open_intsF ht he hc hby (d := x0.1) (ps := x0.2) e0 w0
      obtain ⟨A', n', c', f', c1, h1', h2', h3'⟩ := open_intsF ht he hc hby (d := x1.1) (ps := x1.2) e1 w1
      obtain rfl : u0 = .slice A n c := by simpa using c0
      obtain rfl : u1 = .slice A' n' c' := by simpa using c1
      exact ⟨A, n, c, f, A', n', c', f', by rw [← Array.toList_inj]; exact hq, h1, h2, h1', h2', h3, h3'⟩
end
section
variable {H : Type} {enc : TypeId × Value → H} {P : Program}
/-- The row's last step, of a world of which 'Below' is known. -/
theorem post_below {f : Func} {s : ChangeSpec} {apart fresh handsOn again : Bool} {W W' : World} {args : Array Value} {v : Value} {ds gs : List (DataW H)} {before pa pv : List MemPlace}
    (hW : DataW.Whole enc P f.params.toList s.vars apart W args.toList ds gs before)
    (hres : ∀ (b : Nat) (sp : Nat → Bool) (hd : Bool), DataW.TrodAll enc P W' b sp hd f.resultTypes.toList (v.resultList f.resultTypes.size) (s.fn H (ds ++ gs)).results [])
    (hargs : ∀ sp : Nat → Bool, (∀ p ∈ before, sp p.block = true) → DataW.TrodAll enc P W' 0 sp true f.params.toList args.toList (s.fn H (ds ++ gs)).args pa)
    (hvars : ∀ sp : Nat → Bool, (∀ p ∈ before, sp p.block = true) → DataW.TrodVars enc P W' sp s.vars (s.fn H (ds ++ gs)).vars pv)
    (hps : before = pa ++ pv) (hb : Below W.heap.size W W')
    (hok : ∀ (j : Nat) (t : TypeId) (r : Value), f.resultTypes[j]? = some t → (v.resultList f.resultTypes.size)[j]? = some r → Value.okWide P W' .any 0 t r) :
    s.post enc P f apart fresh handsOn again W args v W' := by
  have hlt : ∀ p ∈ before, p.block < W.heap.size := fun p hp => hW.lt p hp
  have hold : ∀ p ∈ before, (fun b => decide (b < W.heap.size)) p.block = true := fun p hp => by simpa using hlt p hp
  refine ⟨ds, gs, before, [], pa, pv, hW, hres _ _ _, hargs _ hold, hvars _ hold, World.keptBut_mono (fun p hp => ⟨hp, ?_⟩) (hb.frame (· ∈ before)), fun _ => ?_⟩
  · rw [hps, List.mem_append] at hp
    exact Or.inr hp
  · obtain ⟨_, _, _, _, _, hz, hn⟩ := hW
    refine ⟨hok, _, _, ([] ++ pa) ++ pv, ⟨[] ++ pa, pv, trodAll_append (hargs _ (fun _ _ => rfl)) (hres _ _ _), hvars _ (fun _ _ => rfl), rfl, ?_, ?_⟩, ?_⟩
    · intro b off hp
      have hin : MemPlace.cell b off ∈ before := by rw [hps]; simpa using hp
      rw [hb.frozen (hlt _ hin)]
      exact hz b off hin
    · intro ha
      have := hn ha
      rw [hps] at this
      simpa using this
    · intro p hp _
      rw [hps]
      simpa using hp
end
end Go.Flow
