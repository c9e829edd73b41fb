/- Parts of the proof: Args, ACard, AOpn, Args2, A23r. -/
import Derived.Test.YtclaanggpcjnbaaProg
import Derived.Test.YtclaanggpcjnbaaG02
import Derived.OpenShut
import Derived.SizedLaws
import Derived.ChangeSlices
import Derived.Carry
import Derived.Below
import Derived.ChangeSame
import Derived.Test.YtclaanggpcjnbaaG13
import Derived.Test.YtclaanggpcjnbaaG10
import Derived.Test.YtclaanggpcjnbaaG26
import Derived.WalkKit
import Derived.ProofKit
import Derived.Deep.DeepHandedRow
set_option linter.unusedSimpArgs false
set_option linter.unusedVariables false
section
/- What a row's arguments are to a walk: lists of numbers. No condition. -/
namespace Go.Flow
open Go Go.RowKit Go.WideShapes Go.ChangeShapes
section
variable {H : Type} {enc : TypeId × Value → H} {P : Program} {W : World}

/-- All arguments read behind the call as they did. -/
theorem trodAll_below (hl : laidOutB P = true) {W' : World} (hb : Below W.heap.size W W') : ∀ {ts : List TypeId} {vs : List Value} {ds : List (DataW H)} {ps : List MemPlace},
    (∀ t ∈ ts, P.readableRec t = true ∧ t < P.types.size) → DataW.TrodAll enc P W 0 (fun _ => true) true ts vs ds ps → (∀ p ∈ ps, p.block < W.heap.size) →
    ∀ sp : Nat → Bool, (∀ p ∈ ps, sp p.block = true) → DataW.TrodAll enc P W' 0 sp true ts vs ds ps
  | [], [], [], _, _, h, _, _, _ => h
  | _ :: _, _ :: _, _ :: _, _, hT, ⟨p, q, h1, h2, e⟩, hlt, sp, hs =>
    ⟨p, q, WideElems.Trod_stays hl (hT _ (List.mem_cons.2 (.inl rfl))).1 (hT _ (List.mem_cons.2 (.inl rfl))).2 h1
        (fun x hx => hb.same (hlt x (by rw [e]; exact List.mem_append_left _ hx))) (fun x hx => hs x (by rw [e]; exact List.mem_append_left _ hx)),
      trodAll_below hl hb (fun t ht => hT t (List.mem_cons.2 (.inr ht))) h2 (fun x hx => hlt x (by rw [e]; exact List.mem_append_right _ hx)) sp (fun x hx => hs x (by rw [e]; exact List.mem_append_right _ hx)), e⟩

theorem weigh {ts : List TypeId} {ds : List (DataW H)} (h : (DataW.weightsEach P ts ds).all (· ≤ reachBytes) = true) (j : Nat) {t : TypeId} {d : DataW H} (ht : ts[j]? = some t) (hd : ds[j]? = some d) : ∀ k ∈ d.weights P t, k ≤ reachBytes :=
  fun k hk => of_decide_eq_true (List.all_eq_true.1 h k (DataW.weights_mem_each ht hd k hk))

/-- A list of numbers that came in. -/
theorem open_intsF {t e : TypeId} {fuel : Nat} {cs : List Value} {d : DataW H} {ps : List MemPlace} (ht : P.underlying t = some (.slice e)) (he : P.underlying e = some (.int .i64)) (hc : P.cellsOf e = 1) (hby : P.bytesOf e = 8)
    (h : DataW.trod enc P W 0 (fun _ => true) true fuel t cs = some (d, ps)) (hw : ∀ k ∈ d.weights P t, k ≤ reachBytes) :
    ∃ (A : Option Addr) (n c : Nat) (f : Nat → Int), cs = [.slice A n c] ∧ n ≤ c ∧ c ≤ 4611686018427387904 ∧ Ints W A n f := by
  rcases open_ints ht he hc h with ⟨rfl, _⟩ | ⟨a, len, cap, zs, rfl, _, hl, _, hz, hx, hcell, _⟩
  · exact ⟨none, 0, 0, fun _ => 0, rfl, Nat.le_refl _, by omega, Arr.zero _ _ _⟩
  · obtain ⟨rfl, -⟩ := Prod.mk.injEq .. ▸ hx
    simp only [if_true] at hz
    have hb := hw (((lits (H := H) .i64 (zs.take len)).length + (lits (H := H) .i64 (zs.drop len)).length) * P.bytesOf e) (by simp only [DataW.weights, ht]; exact List.mem_cons_self ..)
    rw [hby] at hb
    have hr := reachBytes_lt
    have hl2 : (lits (H := H) .i64 (zs.take len)).length + (lits (H := H) .i64 (zs.drop len)).length = cap := by simp [lits]; omega
    rw [hl2] at hb
    refine ⟨some a, len, cap, fun i => zs.getD i 0, rfl, hl, by omega, fun k hk => ⟨a, rfl, hcell k (by omega)⟩⟩

/-- Two lists in an array. -/
theorem open_pairF {a t e : TypeId} {cs : Array Value} {d : DataW H} {ps : List MemPlace} (ha : P.underlying a = some (.array 2 t)) (hct : P.cellsOf t = 1) (hca : P.cellsOf a = 2) (ht : P.underlying t = some (.slice e)) (he : P.underlying e = some (.int .i64)) (hc : P.cellsOf e = 1)
    (hby : P.bytesOf e = 8) (h : DataW.Trod enc P W 0 (fun _ => true) true a (.agg cs) d ps) (hw : ∀ k ∈ d.weights P a, k ≤ reachBytes) :
    ∃ (A : Option Addr) (n c : Nat) (f : Nat → Int) (A' : Option Addr) (n' c' : Nat) (f' : Nat → Int), cs = #[.slice A n c, .slice A' n' c'] ∧ n ≤ c ∧ c ≤ 4611686018427387904 ∧ n' ≤ c' ∧ c' ≤ 4611686018427387904 ∧ Ints W A n f ∧ Ints W A' n' f' := by
  obtain ⟨fuel, hf⟩ := h
  obtain ⟨xs, m, _, hx, hl, hlen, hel⟩ := DataW.trod_array ha hf
  match xs, hlen with
  | [x0, x1], _ =>
    simp only [Prod.mk.injEq, List.map_cons, List.map_nil] at hx
    obtain ⟨rfl, -⟩ := hx
    rw [hca] at hl
    have hcs : (Value.agg cs).cells = cs := rfl
    rw [hcs] at hl hel
    match hq : cs.toList, hl with
    | [u0, u1], _ =>
      rw [hq, hct] at hel
      have e0 := hel 0 (by omega)
      have e1 := hel 1 (by omega)
      simp only [Nat.zero_mul, Nat.one_mul, List.drop_zero, List.drop_succ_cons, List.take_succ_cons, List.take_zero, List.getElem?_cons_zero, List.getElem?_cons_succ] at e0 e1
      have w0 : ∀ k ∈ x0.1.weights P t, k ≤ reachBytes := fun k hk => hw k (by simp only [DataW.weights, ha, DataW.weightsAll, List.mem_append]; exact .inl hk)
      have w1 : ∀ k ∈ x1.1.weights P t, k ≤ reachBytes := fun k hk => hw k (by simp only [DataW.weights, ha, DataW.weightsAll, List.mem_append]; exact .inr (.inl hk))
      obtain ⟨A, n, c, f, c0, h1, h2, h3⟩ := open_intsF ht he hc hby (d := x0.1) (ps := x0.2) e0 w0
      obtain ⟨A', n', c', f', c1, h1', h2', h3'⟩ := open_intsF ht he hc hby (d := x1.1) (ps := x1.2) e1 w1
      obtain rfl : u0 = .slice A n c := by simpa using c0
      obtain rfl : u1 = .slice A' n' c' := by simpa using c1
      exact ⟨A, n, c, f, A', n', c', f', by rw [← Array.toList_inj]; exact hq, h1, h2, h1', h2', h3, h3'⟩
end
section
variable {H : Type} {enc : TypeId × Value → H} {P : Program}
/-- The row's last step, of a world of which 'Below' is known. -/
theorem post_below {f : Func} {s : ChangeSpec} {apart fresh handsOn again : Bool} {W W' : World} {args : Array Value} {v : Value} {ds gs : List (DataW H)} {before pa pv : List MemPlace}
    (hW : DataW.Whole enc P f.params.toList s.vars apart W args.toList ds gs before)
    (hres : ∀ (b : Nat) (sp : Nat → Bool) (hd : Bool), DataW.TrodAll enc P W' b sp hd f.resultTypes.toList (v.resultList f.resultTypes.size) (s.fn H (ds ++ gs)).results [])
    (hargs : ∀ sp : Nat → Bool, (∀ p ∈ before, sp p.block = true) → DataW.TrodAll enc P W' 0 sp true f.params.toList args.toList (s.fn H (ds ++ gs)).args pa)
    (hvars : ∀ sp : Nat → Bool, (∀ p ∈ before, sp p.block = true) → DataW.TrodVars enc P W' sp s.vars (s.fn H (ds ++ gs)).vars pv)
    (hps : before = pa ++ pv) (hb : Below W.heap.size W W')
    (hok : ∀ (j : Nat) (t : TypeId) (r : Value), f.resultTypes[j]? = some t → (v.resultList f.resultTypes.size)[j]? = some r → Value.okWide P W' .any 0 t r) :
    s.post enc P f apart fresh handsOn again W args v W' := by
  have hlt : ∀ p ∈ before, p.block < W.heap.size := fun p hp => hW.lt p hp
  have hold : ∀ p ∈ before, (fun b => decide (b < W.heap.size)) p.block = true := fun p hp => by simpa using hlt p hp
  refine ⟨ds, gs, before, [], pa, pv, hW, hres _ _ _, hargs _ hold, hvars _ hold, World.keptBut_mono (fun p hp => ⟨hp, ?_⟩) (hb.frame (· ∈ before)), fun _ => ?_⟩
  · rw [hps, List.mem_append] at hp
    exact Or.inr hp
  · obtain ⟨_, _, _, _, _, hz, hn⟩ := hW
    refine ⟨hok, _, _, ([] ++ pa) ++ pv, ⟨[] ++ pa, pv, trodAll_append (hargs _ (fun _ _ => rfl)) (hres _ _ _), hvars _ (fun _ _ => rfl), rfl, ?_, ?_⟩, ?_⟩
    · intro b off hp
      have hin : MemPlace.cell b off ∈ before := by rw [hps]; simpa using hp
      rw [hb.frozen (hlt _ hin)]
      exact hz b off hin
    · intro ha
      have := hn ha
      rw [hps] at this
      simpa using this
    · intro p hp _
      rw [hps]
      simpa using hp
end
end Go.Flow
end

section
/- What a row's arguments are to a contract over plain values. No condition. -/
namespace Go.AV
open Go Go.RowKit Go.Flow
section
variable {σ : Nat → Option Value} {w : World} {n c : Nat} {A : Option Addr}
/-- Nobody owns anything. -/
abbrev O0 : Nat → Prop := fun _ => False
theorem arr_rep {F : Nat → Nat → CV} {G : Nat → Value} (hF : ∀ k, F k 0 = .p (G k)) (h1 : ∀ k, (G k).oneCell' = true) (hc : n ≤ c) (h : Arr w A n G) : RepC σ O0 w (.ls n 1 F) (.slice A n c) := by
  refine ⟨rfl, A, c, rfl, hc, fun k hk j hj => ?_⟩
  obtain rfl : j = 0 := by omega
  obtain ⟨ad, e1, e2⟩ := h k hk
  exact ⟨ad, G k, e1, fun h => h, by simpa using e2, h1 k, by rw [hF]; rfl⟩
theorem ints_rep {f : Nat → Int} (hc : n ≤ c) (h : Ints w A n f) : RepC σ O0 w (.ls n 1 (iF f)) (.slice A n c) := arr_rep (fun _ => rfl) (fun _ => rfl) hc h
theorem bools_rep {f : Nat → Bool} (hc : n ≤ c) (h : Bools w A n f) : RepC σ O0 w (.ls n 1 (bF f)) (.slice A n c) := arr_rep (fun _ => rfl) (fun _ => rfl) hc h
/-- Slices in a slice. -/
theorem lists_rep {B : Nat → Option Addr} {m d : Nat → Nat} {g : Nat → Nat → Int} (hc : n ≤ c) (h : Arr w A n (fun k => .slice (B k) (m k) (d k))) (hm : ∀ k, k < n → m k ≤ d k ∧ Ints w (B k) (m k) (g k)) :
    RepC σ O0 w (.ls n 1 (fun k _ => .ls (m k) 1 (iF (g k)))) (.slice A n c) := by
  refine ⟨rfl, A, c, rfl, hc, fun k hk j hj => ?_⟩
  obtain rfl : j = 0 := by omega
  obtain ⟨ad, e1, e2⟩ := h k hk
  exact ⟨ad, _, e1, fun h => h, by simpa using e2, rfl, (ints_rep (σ := σ) (hm k hk).1 (hm k hk).2).2⟩
end
open Go.WideShapes Go.ChangeShapes
section
variable {H : Type} {enc : TypeId × Value → H} {P : Program} {W : World}
theorem wf_i64 {n : Int} (h : (Lit.int .i64 n).wf = true) : -9223372036854775808 ≤ n ∧ n ≤ 9223372036854775807 := by
  have e1 : IntKind.i64.min = -9223372036854775808 := by decide
  have e2 : IntKind.i64.max = 9223372036854775807 := by decide
  simp [Lit.wf] at h
  omega
/-- A list of numbers that came in: a value of a contract's argument; its numbers are in range. -/
theorem open_intsB {t e : TypeId} {fuel : Nat} {cs : List Value} {d : DataW H} {ps : List MemPlace} (ht : P.underlying t = some (.slice e)) (he : P.underlying e = some (.int .i64)) (hc : P.cellsOf e = 1) (hby : P.bytesOf e = 8)
    (h : DataW.trod enc P W 0 (fun _ => true) true fuel t cs = some (d, ps)) (hw : ∀ k ∈ d.weights P t, k ≤ reachBytes) :
    ∃ (n : Nat) (f : Nat → Int) (u : Value), cs = [u] ∧ n ≤ 4611686018427387904 ∧ (∀ k, -9223372036854775808 ≤ f k ∧ f k ≤ 9223372036854775807) ∧ RepC (fun _ => none) O0 W (.ls n 1 (iF f)) u := by
  rcases open_ints ht he hc h with ⟨rfl, _⟩ | ⟨a, len, cap, zs, rfl, _, hl, _, hz, hx, hcell, hwf⟩
  · exact ⟨0, fun _ => 0, _, rfl, by omega, fun _ => ⟨by dsimp only; decide, by dsimp only; decide⟩, nil_rep⟩
  · obtain ⟨rfl, -⟩ := Prod.mk.injEq .. ▸ hx
    simp only [if_true] at hz
    have hb := hw (((lits (H := H) .i64 (zs.take len)).length + (lits (H := H) .i64 (zs.drop len)).length) * P.bytesOf e) (by simp only [DataW.weights, ht]; exact List.mem_cons_self ..)
    rw [hby] at hb
    have hr := reachBytes_lt
    have hl2 : (lits (H := H) .i64 (zs.take len)).length + (lits (H := H) .i64 (zs.drop len)).length = cap := by simp [lits]; omega
    rw [hl2] at hb
    refine ⟨len, fun i => zs.getD i 0, _, rfl, by omega, fun k => ?_, ints_rep hl fun k hk => ⟨a, rfl, hcell k (by omega)⟩⟩
    dsimp only
    rcases Nat.lt_or_ge k zs.length with hk | hk
    · have : zs.getD k 0 = zs[k] := by rw [List.getD_eq_getElem?_getD, List.getElem?_eq_getElem hk]; rfl
      rw [this]
      exact wf_i64 (hwf _ (List.getElem_mem hk))
    · have : zs.getD k 0 = 0 := by rw [List.getD_eq_getElem?_getD, List.getElem?_eq_none hk]; rfl
      rw [this]
      omega
/-- A struct whose fields have one cell each. -/
theorem open_st {t : TypeId} {fs : Array Field} {n fuel : Nat} {cs : List Value} {d : DataW H} {ps : List MemPlace} (ht : P.underlying t = some (.struct fs)) (hn : P.cellsOf t = n) (hs : fs.size = n) (ho : ∀ (i : Nat) (f : Field), fs[i]? = some f → f.offset = i ∧ P.cellsOf f.type = 1)
    (h : DataW.trod enc P W 0 (fun _ => true) true fuel t cs = some (d, ps)) (hw : ∀ k ∈ d.weights P t, k ≤ reachBytes) :
    cs.length = n ∧ ∀ (i : Nat) (f : Field), fs[i]? = some f → ∃ (u : Value) (d' : DataW H) (ps' : List MemPlace) (m : Nat), cs[i]? = some u ∧ DataW.trod enc P W 0 (fun _ => true) true m f.type [u] = some (d', ps') ∧ ∀ k ∈ d'.weights P f.type, k ≤ reachBytes := by
  obtain ⟨xs, m, _, hx, hl, hlen, hel⟩ := DataW.trod_struct ht h
  refine ⟨hl.trans hn, fun i f hf => ?_⟩
  have hi : i < fs.size := (Array.getElem?_eq_some_iff.1 hf).1
  obtain ⟨o, c1⟩ := ho i f hf
  have e := hel i f hf
  rw [o, c1] at e
  have hx' : xs[i]? = some (xs[i]'(by omega)) := List.getElem?_eq_getElem (by omega)
  have hic : i < cs.length := by omega
  have h1 : (cs.drop i).take 1 = [cs[i]] := by rw [List.drop_eq_getElem_cons hic]; rfl
  rw [h1, hx'] at e
  refine ⟨cs[i], (xs[i]'(by omega)).1, (xs[i]'(by omega)).2, m, List.getElem?_eq_getElem hic, e, fun k hk => hw k ?_⟩
  obtain ⟨rfl, -⟩ := Prod.mk.injEq .. ▸ hx
  simp only [DataW.weights, ht]
  exact DataW.weights_mem_each (j := i) (t := f.type) (by simp [hf]) (by simp [hx']) k hk
theorem get_fld {fs : Array Field} {i : Nat} {I : TypeId} (h : fs[i]?.map (·.type) = some I) : ∃ f, fs[i]? = some f ∧ f.type = I := by
  obtain ⟨f, h1, h2⟩ := Option.map_eq_some_iff.1 h
  exact ⟨f, h1, h2⟩
/-- An image that came in. -/
theorem open_imgB {t I L : TypeId} {fs : Array Field} {fuel : Nat} {cs : List Value} {d : DataW H} {ps : List MemPlace} (ht : P.underlying t = some (.struct fs)) (hn : P.cellsOf t = 3) (hs : fs.size = 3) (ho : ∀ (i : Nat) (f : Field), fs[i]? = some f → f.offset = i ∧ P.cellsOf f.type = 1)
    (h0 : fs[0]?.map (·.type) = some I) (h1 : fs[1]?.map (·.type) = some I) (h2 : fs[2]?.map (·.type) = some L) (hI : P.underlying I = some (.int .i64)) (hL : P.underlying L = some (.slice I)) (hc : P.cellsOf I = 1) (hby : P.bytesOf I = 8)
    (h : DataW.trod enc P W 0 (fun _ => true) true fuel t cs = some (d, ps)) (hw : ∀ k ∈ d.weights P t, k ≤ reachBytes) :
    ∃ (Wd Hg : Int) (n : Nat) (f : Nat → Int), n ≤ 4611686018427387904 ∧ RepL (RepC (fun _ => none) O0 W) [iC Wd, iC Hg, .ls n 1 (iF f)] cs := by
  obtain ⟨hl, hx⟩ := open_st ht hn hs ho h hw
  obtain ⟨f0, g0, rfl⟩ := get_fld h0
  obtain ⟨f1, g1, e1⟩ := get_fld h1
  obtain ⟨f2, g2, rfl⟩ := get_fld h2
  obtain ⟨u0, d0, p0, m0, k0, t0, -⟩ := hx 0 f0 g0
  obtain ⟨u1, d1, p1, m1, k1, t1, -⟩ := hx 1 f1 g1
  obtain ⟨u2, d2, p2, m2, k2, t2, w2⟩ := hx 2 f2 g2
  rw [e1] at t1
  obtain ⟨a, ea, -, -⟩ := DataW.trod_int hI t0
  obtain ⟨b, eb, -, -⟩ := DataW.trod_int hI t1
  obtain ⟨n, f, u, eu, hn', -, hr⟩ := open_intsB hL hI hc hby t2 w2
  obtain rfl : u0 = .int .i64 a := by simpa using ea
  obtain rfl : u1 = .int .i64 b := by simpa using eb
  obtain rfl : u2 = u := by simpa using eu
  refine ⟨a, b, n, f, hn', ?_⟩
  match cs, hl with
  | [c0, c1, c2], _ =>
    simp at k0 k1 k2
    subst k0 k1 k2
    exact ⟨⟨rfl, rfl⟩, ⟨rfl, rfl⟩, hr, trivial⟩
theorem mem_wAll {e : TypeId} {k : Nat} : ∀ {l : List (DataW H)} {d : DataW H}, d ∈ l → k ∈ d.weights P e → k ∈ DataW.weightsAll P e l
  | x :: r, d, hd, hk => by
    unfold DataW.weightsAll
    rcases List.mem_cons.1 hd with h | h
    · rw [h] at hk
      exact List.mem_append_left _ hk
    · exact List.mem_append_right _ (mem_wAll h hk)
/-- A list of lists of numbers that came in. -/
theorem open_listsB {t L I : TypeId} {fuel : Nat} {cs : List Value} {d : DataW H} {ps : List MemPlace} (ht : P.underlying t = some (.slice L)) (hL : P.underlying L = some (.slice I)) (hI : P.underlying I = some (.int .i64)) (cL : P.cellsOf L = 1) (cI : P.cellsOf I = 1) (bI : P.bytesOf I = 8) (bL : P.bytesOf L = 24)
    (h : DataW.trod enc P W 0 (fun _ => true) true fuel t cs = some (d, ps)) (hw : ∀ k ∈ d.weights P t, k ≤ reachBytes) :
    ∃ (n : Nat) (ml : Nat → Nat) (mg : Nat → Nat → Int) (u : Value), cs = [u] ∧ n ≤ 4611686018427387904 ∧ (∀ k, k < n → ml k ≤ 4611686018427387904) ∧ RepC (fun _ => none) O0 W (.ls n 1 (fun k _ => .ls (ml k) 1 (iF (mg k)))) u := by
  rcases DataW.trod_slice ht h with ⟨rfl, _⟩ | ⟨a, len, cap, elems, rest, m, _, rfl, hx, _, hl, _, hlen, hel, _, _⟩
  · exact ⟨0, fun _ => 0, fun _ _ => 0, _, rfl, by omega, fun k hk => absurd hk (Nat.not_lt_zero k), nil_rep⟩
  · obtain ⟨rfl, -⟩ := Prod.mk.injEq .. ▸ hx
    have hb := hw (((elems.map (·.1)).length + (rest.map (·.1)).length) * P.bytesOf L) (by simp only [DataW.weights, ht]; exact List.mem_cons_self ..)
    rw [bL] at hb
    have hr := reachBytes_lt
    have key : ∀ k, ∃ (ml : Nat) (mg : Nat → Int), k < len → ml ≤ 4611686018427387904 ∧ ∃ v, W.cell? (a.add k) = some v ∧ RepC (fun _ => none) O0 W (.ls ml 1 (iF mg)) v := fun k => by
      by_cases hk : k < len
      · have e := hel k hk
        rw [cL, List.getElem?_eq_getElem (by omega)] at e
        obtain ⟨l, e1, e2⟩ := Option.bind_eq_some_iff.1 e
        obtain ⟨n, f, u, rfl, h1, -, h2⟩ := open_intsB hL hI cI bI (d := (elems[k]'(by omega)).1) (ps := (elems[k]'(by omega)).2) e2 (fun q hq => hw q (by
          simp only [DataW.weights, ht]
          exact List.mem_cons_of_mem _ (List.mem_append_left _ (mem_wAll (List.mem_map.2 ⟨_, List.getElem_mem (by omega), rfl⟩) hq))))
        exact ⟨n, f, fun _ => ⟨h1, u, by simpa using cell_of_cells?_one e1, h2⟩⟩
      · exact ⟨0, fun _ => 0, fun h => absurd h hk⟩
    refine ⟨len, fun k => (key k).choose, fun k => (key k).choose_spec.choose, _, rfl, ?_, fun k hk => ((key k).choose_spec.choose_spec hk).1, rfl, some a, cap, rfl, hl, fun k hk j hj => ?_⟩
    · simp only [List.length_map] at hb
      omega
    · obtain rfl : j = 0 := by omega
      obtain ⟨-, v, g1, g2⟩ := (key k).choose_spec.choose_spec hk
      exact ⟨a, v, rfl, fun h => h, by simpa using g1, g2.1, g2.2⟩
end
end Go.AV
end

section
/- What comes in as a row's argument, by its type: openers that are put together. No condition. -/
namespace Go.AV
open Go Go.RowKit Go.Flow Go.WideShapes Go.ChangeShapes
section
variable {H : Type} {enc : TypeId × Value → H} {P : Program} {W : World} {α β : Type}
/-- What comes in at a type is c a, for an a of which ok holds. -/
def Opn (enc : TypeId × Value → H) (P : Program) (W : World) (t : TypeId) (c : α → List CV) (ok : α → Prop) : Prop :=
  ∀ (fuel : Nat) (cs : List Value) (d : DataW H) (ps : List MemPlace), DataW.trod enc P W 0 (fun _ => true) true fuel t cs = some (d, ps) → (∀ k ∈ d.weights P t, k ≤ reachBytes) → ∃ a, ok a ∧ RepL (RepC (fun _ => none) O0 W) (c a) cs
theorem Opn.int {t : TypeId} {k : IntKind} (ht : P.underlying t = some (.int k)) : Opn enc P W t (fun i : Int => [.p (.int k i)]) (fun i => (Lit.int k i).wf = true) := fun fuel cs d ps h _ => by
  obtain ⟨n, rfl, -, hw⟩ := DataW.trod_int ht h
  exact ⟨n, hw, ⟨rfl, rfl⟩, trivial⟩
theorem Opn.bool {t : TypeId} (ht : P.underlying t = some .bool) : Opn enc P W t (fun b : Bool => [.p (.bool b)]) (fun _ => True) := fun fuel cs d ps h _ => by
  obtain ⟨b, rfl, -⟩ := DataW.trod_bool ht h
  exact ⟨b, trivial, ⟨rfl, rfl⟩, trivial⟩
theorem Opn.str {t : TypeId} (ht : P.underlying t = some .string) : Opn enc P W t (fun s : ByteArray => [.p (.string s)]) (fun s => s.size ≤ maxLen) := fun fuel cs d ps h _ => by
  obtain ⟨s, rfl, -, hs⟩ := DataW.trod_string ht h
  exact ⟨s, hs, ⟨rfl, rfl⟩, trivial⟩
theorem mem_getD {L : List α} {k : Nat} {z : α} (h : k < L.length) : L.getD k z ∈ L := by
  rw [List.getD_eq_getElem?_getD, List.getElem?_eq_getElem h]
  exact List.getElem_mem h
theorem getD_ok {L : List Int} (h : ∀ a ∈ L, -9223372036854775808 ≤ a ∧ a ≤ 9223372036854775807) (k : Nat) : -9223372036854775808 ≤ L.getD k 0 ∧ L.getD k 0 ≤ 9223372036854775807 := by
  by_cases hk : k < L.length
  · exact h _ (mem_getD hk)
  · rw [List.getD_eq_getElem?_getD, List.getElem?_eq_none (by omega)]
    exact ⟨by decide, by decide⟩
theorem Opn.mono {t : TypeId} {c : α → List CV} {ok ok' : α → Prop} (h : Opn enc P W t c ok) (hk : ∀ a, ok a → ok' a) : Opn enc P W t c ok' := fun fuel cs d ps h1 h2 =>
  let ⟨a, g1, g2⟩ := h fuel cs d ps h1 h2
  ⟨a, hk a g1, g2⟩
theorem Opn.conv {t : TypeId} {c : α → List CV} {ok : α → Prop} {c' : β → List CV} {ok' : β → Prop} (h : Opn enc P W t c ok) (hk : ∀ a, ok a → ∃ b, ok' b ∧ ∀ cs, RepL (RepC (fun _ => none) O0 W) (c a) cs → RepL (RepC (fun _ => none) O0 W) (c' b) cs) : Opn enc P W t c' ok' := fun fuel cs d ps h1 h2 =>
  let ⟨a, g1, g2⟩ := h fuel cs d ps h1 h2
  let ⟨b, k1, k2⟩ := hk a g1
  ⟨b, k1, k2 cs g2⟩
theorem RepL.app {α : Type} {R : α → Value → Prop} : ∀ {l m : List α} {us vs : List Value}, RepL R l us → RepL R m vs → RepL R (l ++ m) (us ++ vs)
  | [], _, [], _, _, h => h
  | _ :: _, _, _ :: _, _, h1, h2 => ⟨h1.1, RepL.app h1.2 h2⟩
  | [], _, _ :: _, _, h, _ => h.elim
  | _ :: _, _, [], _, h, _ => h.elim
theorem Opn.slice {t e : TypeId} {sz b : Nat} {c : α → List CV} {ok : α → Prop} (h : Opn enc P W e c ok) (z : α) (ht : P.underlying t = some (.slice e)) (ce : P.cellsOf e = sz) (be : P.bytesOf e = b) (hc : ∀ a, (c a).length = sz) (hi : ∀ a, (c a).all immC = true) :
    Opn enc P W t (fun L : List α => [.ls L.length sz (rowF c z L)]) (fun L => L.length * b ≤ reachBytes ∧ ∀ a ∈ L, ok a) := fun fuel cs d ps h1 h2 => by
  subst ce be
  rcases DataW.trod_slice ht h1 with ⟨rfl, _⟩ | ⟨a, len, cap, elems, rest, m, _, rfl, hx, _, hl, _, hlen, hel, _, _⟩
  · exact ⟨[], ⟨by simp, fun _ h => by cases h⟩, nil_rep, trivial⟩
  · obtain ⟨rfl, -⟩ := Prod.mk.injEq .. ▸ hx
    have hb := h2 (((elems.map (·.1)).length + (rest.map (·.1)).length) * P.bytesOf e) (by simp only [DataW.weights, ht]; exact List.mem_cons_self ..)
    have key : ∀ k, ∃ x : α, k < len → ok x ∧ ∀ j, j < P.cellsOf e → ∃ v, W.cell? (a.add (k * P.cellsOf e + j)) = some v ∧ RepC (fun _ => none) O0 W ((c x).getD j .any) v := fun k => by
      by_cases hk : k < len
      · have e1 := hel k hk
        rw [List.getElem?_eq_getElem (by omega)] at e1
        obtain ⟨l, e2, e3⟩ := Option.bind_eq_some_iff.1 e1
        obtain ⟨x, g1, g2⟩ := h m l (elems[k]'(by omega)).1 (elems[k]'(by omega)).2 e3 (fun q hq => h2 q (by
          simp only [DataW.weights, ht]
          exact List.mem_cons_of_mem _ (List.mem_append_left _ (mem_wAll (List.mem_map.2 ⟨_, List.getElem_mem (by omega), rfl⟩) hq))))
        refine ⟨x, fun _ => ⟨g1, fun j hj => ?_⟩⟩
        obtain ⟨-, s1, s2⟩ := World.cells?_some e2
        have s3 := s2 j hj
        have hcl := hc x
        obtain ⟨v, f1, f2⟩ := g2.get (List.getElem?_eq_getElem (l := c x) (i := j) (by omega))
        rw [f1] at s3
        refine ⟨v, ?_, ?_⟩
        · rw [← Addr.add_add]
          exact s3
        · rw [List.getD_eq_getElem?_getD, List.getElem?_eq_getElem (by omega)]
          exact f2
      · exact ⟨z, fun h => absurd h hk⟩
    refine ⟨(List.range len).map (fun k => (key k).choose), ⟨?_, fun x hx => ?_⟩, ⟨rfl, some a, cap, by simp, by simpa using hl, fun k hk j hj => ?_⟩, trivial⟩
    · simp only [List.length_map] at hb
      simp only [List.length_map, List.length_range]
      rw [Nat.add_mul] at hb
      rw [← hlen]
      omega
    · obtain ⟨k, hk, rfl⟩ := List.mem_map.1 hx
      exact ((key k).choose_spec (List.mem_range.1 hk)).1
    · have hk' : k < len := by simpa using hk
      obtain ⟨v, g1, g2⟩ := ((key k).choose_spec hk').2 j hj
      refine ⟨a, v, rfl, fun h => h, g1, g2.1, ?_⟩
      have : rowF c z ((List.range len).map (fun k => (key k).choose)) k j = (c (key k).choose).getD j .any := by
        show (c (List.getD _ k z)).getD j .any = _
        congr 2
        rw [List.getD_eq_getElem?_getD, List.getElem?_map, List.getElem?_range hk']
        rfl
      rw [this]
      have hcl := hc (key k).choose
      have g3 := g2.2
      have g4 : immC ((c (key k).choose).getD j .any) = true := by
        rw [List.getD_eq_getElem?_getD, List.getElem?_eq_getElem (by omega)]
        exact List.all_eq_true.1 (hi _) _ (List.getElem_mem _)
      generalize (c (key k).choose).getD j .any = q at g3 g4
      cases q with
      | pt => cases g4
      | ow => cases g4
      | fn => cases g4
      | _ => exact g3
/-- A slice of elements of one cell. -/
theorem Opn.slice1 {t e : TypeId} {b : Nat} {x : α → CV} {ok : α → Prop} (h : Opn enc P W e (fun a => [x a]) ok) (z : α) (ht : P.underlying t = some (.slice e)) (ce : P.cellsOf e = 1) (be : P.bytesOf e = b) (hi : ∀ a, immC (x a) = true) :
    Opn enc P W t (fun L : List α => [.ls L.length 1 (fun k _ => x (L.getD k z))]) (fun L => L.length * b ≤ reachBytes ∧ ∀ a ∈ L, ok a) :=
  (Opn.slice h z ht ce be (fun _ => rfl) (fun a => by simp [hi a])).conv fun L hL => ⟨L, hL, fun cs hr => by
    match cs, hr with
    | [u], hr =>
      refine ⟨⟨hr.1.1, RepI.ls_congr (fun k _ j hj => ?_) hr.1.2⟩, trivial⟩
      obtain rfl : j = 0 := by omega
      rfl⟩
/-- The fields of a struct from the i-th on, at offset o, of n cells in all. -/
def OpnF (enc : TypeId × Value → H) (P : Program) (W : World) (fs : Array Field) (n i o : Nat) (c : α → List CV) (ok : α → Prop) : Prop :=
  ∀ cs : List Value, cs.length = n → (∀ (j : Nat) (f : Field), i ≤ j → fs[j]? = some f → ∃ (m : Nat) (d : DataW H) (ps : List MemPlace), DataW.trod enc P W 0 (fun _ => true) true m f.type ((cs.drop f.offset).take (P.cellsOf f.type)) = some (d, ps) ∧ ∀ k ∈ d.weights P f.type, k ≤ reachBytes) →
    ∃ a, ok a ∧ RepL (RepC (fun _ => none) O0 W) (c a) (cs.drop o)
theorem OpnF.nil {fs : Array Field} {n i : Nat} : OpnF enc P W fs n i n (fun _ : Unit => []) (fun _ => True) := fun cs hl _ => ⟨(), trivial, by rw [List.drop_eq_nil_of_le (by omega)]; trivial⟩
theorem OpnF.cons {fs : Array Field} {n i o sz : Nat} {T : TypeId} {c : α → List CV} {ok : α → Prop} {c' : β → List CV} {ok' : β → Prop} (h : Opn enc P W T c ok) (hf : fs[i]?.map (fun f => (f.type, f.offset)) = some (T, o)) (hsz : P.cellsOf T = sz) (h' : OpnF enc P W fs n (i + 1) (o + sz) c' ok') :
    OpnF enc P W fs n i o (fun p : α × β => c p.1 ++ c' p.2) (fun p => ok p.1 ∧ ok' p.2) := fun cs hl hx => by
  obtain ⟨f, hf1, hf2⟩ := Option.map_eq_some_iff.1 hf
  obtain ⟨rfl, rfl⟩ := Prod.mk.injEq .. ▸ hf2
  obtain ⟨m, d, ps, h1, h2⟩ := hx i f (Nat.le_refl _) hf1
  obtain ⟨a, g1, g2⟩ := h m _ d ps h1 h2
  obtain ⟨b, k1, k2⟩ := h' cs hl fun j f hj hf => hx j f (by omega) hf
  refine ⟨(a, b), ⟨g1, k1⟩, ?_⟩
  have : cs.drop f.offset = (cs.drop f.offset).take (P.cellsOf f.type) ++ cs.drop (f.offset + sz) := by
    rw [← hsz, ← List.drop_drop, List.take_append_drop]
  rw [this]
  exact g2.app k2
theorem Opn.struct {t : TypeId} {fs : Array Field} {n : Nat} {c : α → List CV} {ok : α → Prop} (ht : P.underlying t = some (.struct fs)) (hn : P.cellsOf t = n) (h : OpnF enc P W fs n 0 0 c ok) : Opn enc P W t c ok := fun fuel cs d ps h1 h2 => by
  obtain ⟨xs, m, _, hx, hl, hlen, hel⟩ := DataW.trod_struct ht h1
  obtain ⟨rfl, -⟩ := Prod.mk.injEq .. ▸ hx
  have := h cs (hl.trans hn) fun j f _ hf => by
    have e := hel j f hf
    have hj : j < fs.size := (Array.getElem?_eq_some_iff.1 hf).1
    have hx' : xs[j]? = some (xs[j]'(by omega)) := List.getElem?_eq_getElem (by omega)
    rw [hx'] at e
    refine ⟨m, (xs[j]'(by omega)).1, (xs[j]'(by omega)).2, e, fun k hk => h2 k ?_⟩
    simp only [DataW.weights, ht]
    exact DataW.weights_mem_each (j := j) (t := f.type) (by simp [hf]) (by simp [hx']) k hk
  simpa using this
theorem Opn.array {t e : TypeId} {N sz : Nat} {c : α → List CV} {ok : α → Prop} (h : Opn enc P W e c ok) (ht : P.underlying t = some (.array N e)) (ce : P.cellsOf e = sz) (ct : P.cellsOf t = N * sz) : Opn enc P W t (fun L : List α => L.flatMap c) (fun L => L.length = N ∧ ∀ a ∈ L, ok a) := fun fuel cs d ps h1 h2 => by
  subst ce
  obtain ⟨xs, m, _, hx, hl, hlen, hel⟩ := DataW.trod_array ht h1
  obtain ⟨rfl, -⟩ := Prod.mk.injEq .. ▸ hx
  rw [ct] at hl
  have key : ∀ k, k ≤ N → ∃ L : List α, (L.length = N - k ∧ ∀ a ∈ L, ok a) ∧ RepL (RepC (fun _ => none) O0 W) (L.flatMap c) (cs.drop (k * P.cellsOf e)) := by
    intro k hk
    induction hd : N - k generalizing k with
    | zero =>
      obtain rfl : k = N := by omega
      exact ⟨[], ⟨rfl, fun _ h => by cases h⟩, by rw [List.drop_eq_nil_of_le (by omega)]; trivial⟩
    | succ q ih =>
      have hk' : k < N := by omega
      have e1 := hel k hk'
      have hx' : xs[k]? = some (xs[k]'(by omega)) := List.getElem?_eq_getElem (by omega)
      rw [hx'] at e1
      obtain ⟨a, g1, g2⟩ := h m _ _ _ e1 fun q hq => h2 q (by
        simp only [DataW.weights, ht]
        exact mem_wAll (List.mem_map.2 ⟨_, List.getElem_mem (by omega), rfl⟩) hq)
      obtain ⟨L, ⟨k1, k2⟩, k3⟩ := ih (k + 1) (by omega) (by omega)
      refine ⟨a :: L, ⟨by simp [k1], fun b hb => by rcases List.mem_cons.1 hb with rfl | hb; exact g1; exact k2 b hb⟩, ?_⟩
      have : cs.drop (k * P.cellsOf e) = (cs.drop (k * P.cellsOf e)).take (P.cellsOf e) ++ cs.drop ((k + 1) * P.cellsOf e) := by
        rw [Nat.add_mul, Nat.one_mul, ← List.drop_drop, List.take_append_drop]
      rw [this]
      exact g2.app k3
  obtain ⟨L, h3, h4⟩ := key 0 (Nat.zero_le _)
  exact ⟨L, h3, by simpa using h4⟩
/-- An argument: an aggregate, or one cell. -/
theorem Opn.argS {t : TypeId} {fs : Array Field} {c : α → List CV} {ok : α → Prop} {r : Reach} {b0 : Nat} {v : Value} {d : DataW H} {ps : List MemPlace} (h : Opn enc P W t c ok) (ht : P.underlying t = some (.struct fs)) (hv : Value.okWide P W r b0 t v) (hd : DataW.Trod enc P W 0 (fun _ => true) true t v d ps) (hw : ∀ k ∈ d.weights P t, k ≤ reachBytes) :
    ∃ a, ok a ∧ RepV (fun _ => none) O0 W (.ag (c a)) v := by
  unfold Value.okWide at hv
  rw [ht] at hv
  obtain ⟨cs, rfl, -, -⟩ := hv
  obtain ⟨fu, g⟩ := hd
  obtain ⟨a, h1, h2⟩ := h fu _ d ps g hw
  exact ⟨a, h1, _, rfl, h2⟩
theorem Opn.argA {t e : TypeId} {N : Nat} {c : α → List CV} {ok : α → Prop} {r : Reach} {b0 : Nat} {v : Value} {d : DataW H} {ps : List MemPlace} (h : Opn enc P W t c ok) (ht : P.underlying t = some (.array N e)) (hv : Value.okWide P W r b0 t v) (hd : DataW.Trod enc P W 0 (fun _ => true) true t v d ps) (hw : ∀ k ∈ d.weights P t, k ≤ reachBytes) :
    ∃ a, ok a ∧ RepV (fun _ => none) O0 W (.ag (c a)) v := by
  unfold Value.okWide at hv
  rw [ht] at hv
  obtain ⟨cs, rfl, -, -⟩ := hv
  obtain ⟨fu, g⟩ := hd
  obtain ⟨a, h1, h2⟩ := h fu _ d ps g hw
  exact ⟨a, h1, _, rfl, h2⟩
theorem Opn.argC {t : TypeId} {c : α → CV} {ok : α → Prop} {v : Value} {d : DataW H} {ps : List MemPlace} (h : Opn enc P W t (fun a => [c a]) ok) (h1 : v.cells = #[v]) (hd : DataW.Trod enc P W 0 (fun _ => true) true t v d ps) (hw : ∀ k ∈ d.weights P t, k ≤ reachBytes) :
    ∃ a, ok a ∧ RepV (fun _ => none) O0 W (.c (c a)) v := by
  obtain ⟨fu, g⟩ := hd
  rw [h1] at g
  obtain ⟨a, h1, h2⟩ := h fu _ d ps g hw
  exact ⟨a, h1, h2.1⟩
theorem cells_slice {t e : TypeId} {r : Reach} {b0 : Nat} {v : Value} (ht : P.underlying t = some (.slice e)) (hv : Value.okWide P W r b0 t v) : v.cells = #[v] := by
  obtain ⟨_, _, _, rfl⟩ := okWide_slice ht hv
  rfl
theorem cells_int {t : TypeId} {k : IntKind} {r : Reach} {b0 : Nat} {v : Value} (ht : P.underlying t = some (.int k)) (hv : Value.okWide P W r b0 t v) : v.cells = #[v] := by
  obtain ⟨_, rfl⟩ := okWide_int ht hv
  rfl
theorem cells_bool {t : TypeId} {r : Reach} {b0 : Nat} {v : Value} (ht : P.underlying t = some .bool) (hv : Value.okWide P W r b0 t v) : v.cells = #[v] := by
  obtain ⟨_, rfl⟩ := okWide_bool ht hv
  rfl
theorem cells_str {t : TypeId} {r : Reach} {b0 : Nat} {v : Value} (ht : P.underlying t = some .string) (hv : Value.okWide P W r b0 t v) : v.cells = #[v] := by
  obtain ⟨_, rfl⟩ := okWide_string ht hv
  rfl
end
end Go.AV
end

section
/- What a row's arguments are to a walk: arrays of numbers. No condition. -/
namespace Go.Flow
open Go Go.RowKit Go.WideShapes Go.ChangeShapes
section
variable {P : Program} {W : World}
/-- Cells that are all numbers. -/
theorem row_ints {r : Reach} {base : Nat} {t u : TypeId} {n : Nat} {cs : Array Value} (hts : P.cellTypes P.depth t = some (List.replicate n u)) (hu : P.underlying u = some (.int .i64)) (hs : cs.size = n)
    (h : Row.okWide P W r base t cs) : ∃ f : Nat → Int, ∀ i, i < n → cs[i]? = some (.int .i64 (f i)) := by
  obtain ⟨ts, e, _, hel⟩ := h
  obtain rfl : ts = List.replicate n u := Option.some.inj (e.symm.trans hts)
  refine ⟨fun i => match cs[i]? with | some (.int _ k) => k | _ => 0, fun i hi => ?_⟩
  have hc : cs[i]? = some cs[i] := Array.getElem?_eq_getElem (by omega)
  obtain ⟨u', hu', hok⟩ := hel i _ hc
  rw [List.length_replicate, Nat.mod_eq_of_lt hi, List.getElem?_replicate, if_pos hi] at hu'
  obtain rfl := Option.some.inj hu'
  rw [hc]
  unfold Cell.okWide at hok
  rw [hu] at hok
  generalize cs[i] = v at *
  cases v <;> simp_all [Cell.ok]
theorem eight {cs : Array Value} {f : Nat → Int} (hs : cs.size = 8) (h : ∀ i, i < 8 → cs[i]? = some (.int .i64 (f i))) :
    cs = #[.int .i64 (f 0), .int .i64 (f 1), .int .i64 (f 2), .int .i64 (f 3), .int .i64 (f 4), .int .i64 (f 5), .int .i64 (f 6), .int .i64 (f 7)] := by
  refine Array.ext (by simpa using hs) fun i h1 h2 => ?_
  have hi : i < 8 := by omega
  have := h i hi
  rw [Array.getElem?_eq_getElem h1] at this
  rw [Option.some.inj this]
  match i, hi with
  | 0, _ => rfl
  | 1, _ => rfl
  | 2, _ => rfl
  | 3, _ => rfl
  | 4, _ => rfl
  | 5, _ => rfl
  | 6, _ => rfl
  | 7, _ => rfl
end
end Go.Flow
end

section
/- Chapter 23: the openers of the laws' arguments. No condition. -/
namespace Go.Proofs.Ytclaanggpcjnbaa
open Go.ChangeShapes Go.WideShapes Go.ChangeAt Go.RowKit Go.Flow Go.AV
theorem laidOut : laidOutB Try.prog = true := by kernel_rfl
theorem cellsI : Try.prog.cellsOf 3 = 1 := by kernel_rfl
theorem cellsL : Try.prog.cellsOf 22 = 1 := by kernel_rfl
theorem cellsG : Try.prog.cellsOf 24 = 4 := by kernel_rfl
theorem bytesI : Try.prog.bytesOf 3 = 8 := by kernel_rfl
section
variable {H : Type} {enc : TypeId × Value → H} {W : World}
theorem opn_int : Opn enc Try.prog W 3 (fun i : Int => [iC i]) (fun i => -9223372036854775808 ≤ i ∧ i ≤ 9223372036854775807) := (Opn.int Try.underlying3).mono fun _ h => wf_i64 h
theorem opn_ints : Opn enc Try.prog W 22 (fun L : List Int => [.ls L.length 1 (iF fun k => L.getD k 0)]) (fun L => L.length ≤ 4611686018427387904 ∧ ∀ a ∈ L, -9223372036854775808 ≤ a ∧ a ≤ 9223372036854775807) :=
  (opn_int.slice1 0 Try.underlying22 cellsI bytesI fun _ => rfl).mono fun L h => ⟨by have := reachBytes_lt; omega, h.2⟩
def Bg.ok (x : Bg) : Prop := (-9223372036854775808 ≤ x.lo ∧ x.lo ≤ 9223372036854775807) ∧ (-9223372036854775808 ≤ x.bl ∧ x.bl ≤ 9223372036854775807) ∧ (-9223372036854775808 ≤ x.sh ∧ x.sh ≤ 9223372036854775807) ∧ -9223372036854775808 ≤ x.st ∧ x.st ≤ 9223372036854775807
theorem opn_bg : Opn enc Try.prog W 24 bgC Bg.ok :=
  (Opn.struct Try.underlying24 (n := 4) cellsG (.cons opn_int rfl cellsI (.cons opn_int rfl cellsI (.cons opn_int rfl cellsI (.cons opn_int rfl cellsI .nil))))).conv fun a h => ⟨⟨a.1, a.2.1, a.2.2.1, a.2.2.2.1⟩, ⟨h.1, h.2.1, h.2.2.1, h.2.2.2.1⟩, fun _ h => h⟩
theorem opn_mat : Opn enc Try.prog W 26 matC (fun _ => True) :=
  (Opn.struct Try.underlying26 (n := 10) (by kernel_rfl) (.cons opn_int rfl cellsI (.cons opn_int rfl cellsI (.cons opn_bg rfl cellsG (.cons opn_bg rfl cellsG .nil))))).conv fun a h => ⟨⟨a.1, a.2.1, a.2.2.1, a.2.2.2.1⟩, trivial, fun _ h => h⟩
def Ht.ok (h : Ht) : Prop := h.N ≤ 4611686018427387904 ∧ h.M ≤ 4611686018427387904
theorem opn_hit : Opn enc Try.prog W 47 htC Ht.ok :=
  (Opn.struct Try.underlying47 (n := 6) (by kernel_rfl) (.cons opn_int rfl cellsI (.cons opn_int rfl cellsI (.cons opn_ints rfl cellsL (.cons opn_ints rfl cellsL (.cons opn_int rfl cellsI (.cons opn_int rfl cellsI .nil))))))).conv fun a h => ⟨⟨a.1, a.2.1, a.2.2.1.length, fun k => a.2.2.1.getD k 0, a.2.2.2.1.length, fun k => a.2.2.2.1.getD k 0, a.2.2.2.2.1, a.2.2.2.2.2.1⟩, ⟨h.2.2.1.1, h.2.2.2.1.1⟩, fun _ h => h⟩
end
end Go.Proofs.Ytclaanggpcjnbaa
end
