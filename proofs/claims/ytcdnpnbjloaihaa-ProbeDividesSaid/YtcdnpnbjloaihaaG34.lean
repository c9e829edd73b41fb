/- Parts of the proof: Args, ACard, A33i, Args2. -/
import Derived.Test.YtcdnpnbjloaihaaProg
import Derived.Test.YtcdnpnbjloaihaaG02
import Derived.OpenShut
import Derived.SizedLaws
import Derived.ChangeSlices
import Derived.Carry
import Derived.Below
import Derived.ChangeSame
import Derived.Test.YtcdnpnbjloaihaaG10
import Derived.Test.YtcdnpnbjloaihaaG32
import Derived.Test.YtcdnpnbjloaihaaG33
set_option linter.unusedSimpArgs false
set_option linter.unusedVariables false
section
/- What a row's arguments are to a walk: lists of numbers. No condition. -/
namespace Go.Flow
open Go Go.RowKit Go.WideShapes Go.ChangeShapes
section
variable {H : Type} {enc : TypeId × Value → H} {P : Program} {W : World}

/-- All arguments read behind the call as they did. -/
theorem trodAll_below (hl : laidOutB P = true) {W' : World} (hb : Below W.heap.size W W') : ∀ {ts : List TypeId} {vs : List Value} {ds : List (DataW H)} {ps : List MemPlace},
    (∀ t ∈ ts, P.readableRec t = true ∧ t < P.types.size) → DataW.TrodAll enc P W 0 (fun _ => true) true ts vs ds ps → (∀ p ∈ ps, p.block < W.heap.size) →
    ∀ sp : Nat → Bool, (∀ p ∈ ps, sp p.block = true) → DataW.TrodAll enc P W' 0 sp true ts vs ds ps
  | [], [], [], _, _, h, _, _, _ => h
  | _ :: _, _ :: _, _ :: _, _, hT, ⟨p, q, h1, h2, e⟩, hlt, sp, hs =>
    ⟨p, q, WideElems.Trod_stays hl (hT _ (List.mem_cons.2 (.inl rfl))).1 (hT _ (List.mem_cons.2 (.inl rfl))).2 h1
        (fun x hx => hb.same (hlt x (by rw [e]; exact List.mem_append_left _ hx))) (fun x hx => hs x (by rw [e]; exact List.mem_append_left _ hx)),
      trodAll_below hl hb (fun t ht => hT t (List.mem_cons.2 (.inr ht))) h2 (fun x hx => hlt x (by rw [e]; exact List.mem_append_right _ hx)) sp (fun x hx => hs x (by rw [e]; exact List.mem_append_right _ hx)), e⟩

theorem weigh {ts : List TypeId} {ds : List (DataW H)} (h : (DataW.weightsEach P ts ds).all (· ≤ reachBytes) = true) (j : Nat) {t : TypeId} {d : DataW H} (ht : ts[j]? = some t) (hd : ds[j]? = some d) : ∀ k ∈ d.weights P t, k ≤ reachBytes :=
  fun k hk => of_decide_eq_true (List.all_eq_true.1 h k (DataW.weights_mem_each ht hd k hk))

/-- A list of numbers that came in. -/
theorem open_intsF {t e : TypeId} {fuel : Nat} {cs : List Value} {d : DataW H} {ps : List MemPlace} (ht : P.underlying t = some (.slice e)) (he : P.underlying e = some (.int .i64)) (hc : P.cellsOf e = 1) (hby : P.bytesOf e = 8)
    (h : DataW.trod enc P W 0 (fun _ => true) true fuel t cs = some (d, ps)) (hw : ∀ k ∈ d.weights P t, k ≤ reachBytes) :
    ∃ (A : Option Addr) (n c : Nat) (f : Nat → Int), cs = [.slice A n c] ∧ n ≤ c ∧ c ≤ 4611686018427387904 ∧ Ints W A n f := by
  rcases open_ints ht he hc h with ⟨rfl, _⟩ | ⟨a, len, cap, zs, rfl, _, hl, _, hz, hx, hcell, _⟩
  · exact ⟨none, 0, 0, fun _ => 0, rfl, Nat.le_refl _, by omega, Arr.zero _ _ _⟩
  · obtain ⟨rfl, -⟩ := Prod.mk.injEq .. ▸ hx
    simp only [if_true] at hz
    have hb := hw (((lits (H := H) .i64 (zs.take len)).length + (lits (H := H) .i64 (zs.drop len)).length) * P.bytesOf e) (by simp only [DataW.weights, ht]; exact List.mem_cons_self ..)
    rw [hby] at hb
    have hr := reachBytes_lt
    have hl2 : (lits (H := H) .i64 (zs.take len)).length + (lits (H := H) .i64 (zs.drop len)).length = cap := by simp [lits]; omega
    rw [hl2] at hb
    refine ⟨some a, len, cap, fun i => zs.getD i 0, rfl, hl, by omega, fun k hk => ⟨a, rfl, hcell k (by omega)⟩⟩

/-- Two lists in an array. -/
theorem open_pairF {a t e : TypeId} {cs : Array Value} {d : DataW H} {ps : List MemPlace} (ha : P.underlying a = some (.array 2 t)) (hct : P.cellsOf t = 1) (hca : P.cellsOf a = 2) (ht : P.underlying t = some (.slice e)) (he : P.underlying e = some (.int .i64)) (hc : P.cellsOf e = 1)
    (hby : P.bytesOf e = 8) (h : DataW.Trod enc P W 0 (fun _ => true) true a (.agg cs) d ps) (hw : ∀ k ∈ d.weights P a, k ≤ reachBytes) :
    ∃ (A : Option Addr) (n c : Nat) (f : Nat → Int) (A' : Option Addr) (n' c' : Nat) (f' : Nat → Int), cs = #[.slice A n c, .slice A' n' c'] ∧ n ≤ c ∧ c ≤ 4611686018427387904 ∧ n' ≤ c' ∧ c' ≤ 4611686018427387904 ∧ Ints W A n f ∧ Ints W A' n' f' := by
  obtain ⟨fuel, hf⟩ := h
  obtain ⟨xs, m, _, hx, hl, hlen, hel⟩ := DataW.trod_array ha hf
  match xs, hlen with
  | [x0, x1], _ =>
    simp only [Prod.mk.injEq, List.map_cons, List.map_nil] at hx
    obtain ⟨rfl, -⟩ := hx
    rw [hca] at hl
    have hcs : (Value.agg cs).cells = cs := rfl
    rw [hcs] at hl hel
    match hq : cs.toList, hl with
    | [u0, u1], _ =>
      rw [hq, hct] at hel
      have e0 := hel 0 (by omega)
      have e1 := hel 1 (by omega)
      simp only [Nat.zero_mul, Nat.one_mul, List.drop_zero, List.drop_succ_cons, List.take_succ_cons, List.take_zero, List.getElem?_cons_zero, List.getElem?_cons_succ] at e0 e1
      have w0 : ∀ k ∈ x0.1.weights P t, k ≤ reachBytes := fun k hk => hw k (by simp only [DataW.weights, ha, DataW.weightsAll, List.mem_append]; exact .inl hk)
      have w1 : ∀ k ∈ x1.1.weights P t, k ≤ reachBytes := fun k hk => hw k (by simp only [DataW.weights, ha, DataW.weightsAll, List.mem_append]; exact .inr (.inl hk))
      obtain ⟨A, n, c, f, c0, h1, h2, h3⟩ := open_intsF ht he hc hby (d := x0.1) (ps := x0.2) e0 w0
      obtain ⟨A', n', c', f', c1, h1', h2', h3'⟩ := open_intsF ht he hc hby (d := x1.1) (ps := x1.2) e1 w1
      obtain rfl : u0 = .slice A n c := by simpa using c0
      obtain rfl : u1 = .slice A' n' c' := by simpa using c1
      exact ⟨A, n, c, f, A', n', c', f', by rw [← Array.toList_inj]; exact hq, h1, h2, h1', h2', h3, h3'⟩
end
section
variable {H : Type} {enc : TypeId × Value → H} {P : Program}
/-- The row's last step, of a world of which 'Below' is known. -/
theorem post_below {f : Func} {s : ChangeSpec} {apart fresh handsOn again : Bool} {W W' : World} {args : Array Value} {v : Value} {ds gs : List (DataW H)} {before pa pv : List MemPlace}
    (hW : DataW.Whole enc P f.params.toList s.vars apart W args.toList ds gs before)
    (hres : ∀ (b : Nat) (sp : Nat → Bool) (hd : Bool), DataW.TrodAll enc P W' b sp hd f.resultTypes.toList (v.resultList f.resultTypes.size) (s.fn H (ds ++ gs)).results [])
    (hargs : ∀ sp : Nat → Bool, (∀ p ∈ before, sp p.block = true) → DataW.TrodAll enc P W' 0 sp true f.params.toList args.toList (s.fn H (ds ++ gs)).args pa)
    (hvars : ∀ sp : Nat → Bool, (∀ p ∈ before, sp p.block = true) → DataW.TrodVars enc P W' sp s.vars (s.fn H (ds ++ gs)).vars pv)
    (hps : before = pa ++ pv) (hb : Below W.heap.size W W')
    (hok : ∀ (j : Nat) (t : TypeId) (r : Value), f.resultTypes[j]? = some t → (v.resultList f.resultTypes.size)[j]? = some r → Value.okWide P W' .any 0 t r) :
    s.post enc P f apart fresh handsOn again W args v W' := by
  have hlt : ∀ p ∈ before, p.block < W.heap.size := fun p hp => hW.lt p hp
  have hold : ∀ p ∈ before, (fun b => decide (b < W.heap.size)) p.block = true := fun p hp => by simpa using hlt p hp
  refine ⟨ds, gs, before, [], pa, pv, hW, hres _ _ _, hargs _ hold, hvars _ hold, World.keptBut_mono (fun p hp => ⟨hp, ?_⟩) (hb.frame (· ∈ before)), fun _ => ?_⟩
  · rw [hps, List.mem_append] at hp
    exact Or.inr hp
  · obtain ⟨_, _, _, _, _, hz, hn⟩ := hW
    refine ⟨hok, _, _, ([] ++ pa) ++ pv, ⟨[] ++ pa, pv, trodAll_append (hargs _ (fun _ _ => rfl)) (hres _ _ _), hvars _ (fun _ _ => rfl), rfl, ?_, ?_⟩, ?_⟩
    · intro b off hp
      have hin : MemPlace.cell b off ∈ before := by rw [hps]; simpa using hp
      rw [hb.frozen (hlt _ hin)]
      exact hz b off hin
    · intro ha
      have := hn ha
      rw [hps] at this
      simpa using this
    · intro p hp _
      rw [hps]
      simpa using hp
end
end Go.Flow
end

section
/- What a row's arguments are to a contract over plain values. No condition. -/
namespace Go.AV
open Go Go.RowKit Go.Flow
section
variable {σ : Nat → Option Value} {w : World} {n c : Nat} {A : Option Addr}
/-- Nobody owns anything. -/
abbrev O0 : Nat → Prop := fun _ => False
theorem arr_rep {F : Nat → Nat → CV} {G : Nat → Value} (hF : ∀ k, F k 0 = .p (G k)) (h1 : ∀ k, (G k).oneCell' = true) (hc : n ≤ c) (h : Arr w A n G) : RepC σ O0 w (.ls n 1 F) (.slice A n c) := by
  refine ⟨rfl, A, c, rfl, hc, fun k hk j hj => ?_⟩
  obtain rfl : j = 0 := by omega
  obtain ⟨ad, e1, e2⟩ := h k hk
  exact ⟨ad, G k, e1, fun h => h, by simpa using e2, h1 k, by rw [hF]; rfl⟩
theorem ints_rep {f : Nat → Int} (hc : n ≤ c) (h : Ints w A n f) : RepC σ O0 w (.ls n 1 (iF f)) (.slice A n c) := arr_rep (fun _ => rfl) (fun _ => rfl) hc h
theorem bools_rep {f : Nat → Bool} (hc : n ≤ c) (h : Bools w A n f) : RepC σ O0 w (.ls n 1 (bF f)) (.slice A n c) := arr_rep (fun _ => rfl) (fun _ => rfl) hc h
/-- Slices in a slice. -/
theorem lists_rep {B : Nat → Option Addr} {m d : Nat → Nat} {g : Nat → Nat → Int} (hc : n ≤ c) (h : Arr w A n (fun k => .slice (B k) (m k) (d k))) (hm : ∀ k, k < n → m k ≤ d k ∧ Ints w (B k) (m k) (g k)) :
    RepC σ O0 w (.ls n 1 (fun k _ => .ls (m k) 1 (iF (g k)))) (.slice A n c) := by
  refine ⟨rfl, A, c, rfl, hc, fun k hk j hj => ?_⟩
  obtain rfl : j = 0 := by omega
  obtain ⟨ad, e1, e2⟩ := h k hk
  exact ⟨ad, _, e1, fun h => h, by simpa using e2, rfl, (ints_rep (σ := σ) (hm k hk).1 (hm k hk).2).2⟩
end
open Go.WideShapes Go.ChangeShapes
section
variable {H : Type} {enc : TypeId × Value → H} {P : Program} {W : World}
theorem wf_i64 {n : Int} (h : (Lit.int .i64 n).wf = true) : -9223372036854775808 ≤ n ∧ n ≤ 9223372036854775807 := by
  have e1 : IntKind.i64.min = -9223372036854775808 := by decide
  have e2 : IntKind.i64.max = 9223372036854775807 := by decide
  simp [Lit.wf] at h
  omega
/-- A list of numbers that came in: a value of a contract's argument; its numbers are in range. -/
theorem open_intsB {t e : TypeId} {fuel : Nat} {cs : List Value} {d : DataW H} {ps : List MemPlace} (ht : P.underlying t = some (.slice e)) (he : P.underlying e = some (.int .i64)) (hc : P.cellsOf e = 1) (hby : P.bytesOf e = 8)
    (h : DataW.trod enc P W 0 (fun _ => true) true fuel t cs = some (d, ps)) (hw : ∀ k ∈ d.weights P t, k ≤ reachBytes) :
    ∃ (n : Nat) (f : Nat → Int) (u : Value), cs = [u] ∧ n ≤ 4611686018427387904 ∧ (∀ k, -9223372036854775808 ≤ f k ∧ f k ≤ 9223372036854775807) ∧ RepC (fun _ => none) O0 W (.ls n 1 (iF f)) u := by
  rcases open_ints ht he hc h with ⟨rfl, _⟩ | ⟨a, len, cap, zs, rfl, _, hl, _, hz, hx, hcell, hwf⟩
  · exact ⟨0, fun _ => 0, _, rfl, by omega, fun _ => ⟨by dsimp only; decide, by dsimp only; decide⟩, nil_rep⟩
  · obtain ⟨rfl, -⟩ := Prod.mk.injEq .. ▸ hx
    simp only [if_true] at hz
    have hb := hw (((lits (H := H) .i64 (zs.take len)).length + (lits (H := H) .i64 (zs.drop len)).length) * P.bytesOf e) (by simp only [DataW.weights, ht]; exact List.mem_cons_self ..)
    rw [hby] at hb
    have hr := reachBytes_lt
    have hl2 : (lits (H := H) .i64 (zs.take len)).length + (lits (H := H) .i64 (zs.drop len)).length = cap := by simp [lits]; omega
    rw [hl2] at hb
    refine ⟨len, fun i => zs.getD i 0, _, rfl, by omega, fun k => ?_, ints_rep hl fun k hk => ⟨a, rfl, hcell k (by omega)⟩⟩
    dsimp only
    rcases Nat.lt_or_ge k zs.length with hk | hk
    · have : zs.getD k 0 = zs[k] := by rw [List.getD_eq_getElem?_getD, List.getElem?_eq_getElem hk]; rfl
      rw [this]
      exact wf_i64 (hwf _ (List.getElem_mem hk))
    · have : zs.getD k 0 = 0 := by rw [List.getD_eq_getElem?_getD, List.getElem?_eq_none hk]; rfl
      rw [this]
      omega
/-- A struct whose fields have one cell each. -/
theorem open_st {t : TypeId} {fs : Array Field} {n fuel : Nat} {cs : List Value} {d : DataW H} {ps : List MemPlace} (ht : P.underlying t = some (.struct fs)) (hn : P.cellsOf t = n) (hs : fs.size = n) (ho : ∀ (i : Nat) (f : Field), fs[i]? = some f → f.offset = i ∧ P.cellsOf f.type = 1)
    (h : DataW.trod enc P W 0 (fun _ => true) true fuel t cs = some (d, ps)) (hw : ∀ k ∈ d.weights P t, k ≤ reachBytes) :
    cs.length = n ∧ ∀ (i : Nat) (f : Field), fs[i]? = some f → ∃ (u : Value) (d' : DataW H) (ps' : List MemPlace) (m : Nat), cs[i]? = some u ∧ DataW.trod enc P W 0 (fun _ => true) true m f.type [u] = some (d', ps') ∧ ∀ k ∈ d'.weights P f.type, k ≤ reachBytes := by
  obtain ⟨xs, m, _, hx, hl, hlen, hel⟩ := DataW.trod_struct ht h
  refine ⟨hl.trans hn, fun i f hf => ?_⟩
  have hi : i < fs.size := (Array.getElem?_eq_some_iff.1 hf).1
  obtain ⟨o, c1⟩ := ho i f hf
  have e := hel i f hf
  rw [o, c1] at e
  have hx' : xs[i]? = some (xs[i]'(by omega)) := List.getElem?_eq_getElem (by omega)
  have hic : i < cs.length := by omega
  have h1 : (cs.drop i).take 1 = [cs[i]] := by rw [List.drop_eq_getElem_cons hic]; rfl
  rw [h1, hx'] at e
  refine ⟨cs[i], (xs[i]'(by omega)).1, (xs[i]'(by omega)).2, m, List.getElem?_eq_getElem hic, e, fun k hk => hw k ?_⟩
  obtain ⟨rfl, -⟩ := Prod.mk.injEq .. ▸ hx
  simp only [DataW.weights, ht]
  exact DataW.weights_mem_each (j := i) (t := f.type) (by simp [hf]) (by simp [hx']) k hk
theorem get_fld {fs : Array Field} {i : Nat} {I : TypeId} (h : fs[i]?.map (·.type) = some I) : ∃ f, fs[i]? = some f ∧ f.type = I := by
  obtain ⟨f, h1, h2⟩ := Option.map_eq_some_iff.1 h
  exact ⟨f, h1, h2⟩
/-- An image that came in. -/
theorem open_imgB {t I L : TypeId} {fs : Array Field} {fuel : Nat} {cs : List Value} {d : DataW H} {ps : List MemPlace} (ht : P.underlying t = some (.struct fs)) (hn : P.cellsOf t = 3) (hs : fs.size = 3) (ho : ∀ (i : Nat) (f : Field), fs[i]? = some f → f.offset = i ∧ P.cellsOf f.type = 1)
    (h0 : fs[0]?.map (·.type) = some I) (h1 : fs[1]?.map (·.type) = some I) (h2 : fs[2]?.map (·.type) = some L) (hI : P.underlying I = some (.int .i64)) (hL : P.underlying L = some (.slice I)) (hc : P.cellsOf I = 1) (hby : P.bytesOf I = 8)
    (h : DataW.trod enc P W 0 (fun _ => true) true fuel t cs = some (d, ps)) (hw : ∀ k ∈ d.weights P t, k ≤ reachBytes) :
    ∃ (Wd Hg : Int) (n : Nat) (f : Nat → Int), n ≤ 4611686018427387904 ∧ RepL (RepC (fun _ => none) O0 W) [iC Wd, iC Hg, .ls n 1 (iF f)] cs := by
  obtain ⟨hl, hx⟩ := open_st ht hn hs ho h hw
  obtain ⟨f0, g0, rfl⟩ := get_fld h0
  obtain ⟨f1, g1, e1⟩ := get_fld h1
  obtain ⟨f2, g2, rfl⟩ := get_fld h2
  obtain ⟨u0, d0, p0, m0, k0, t0, -⟩ := hx 0 f0 g0
  obtain ⟨u1, d1, p1, m1, k1, t1, -⟩ := hx 1 f1 g1
  obtain ⟨u2, d2, p2, m2, k2, t2, w2⟩ := hx 2 f2 g2
  rw [e1] at t1
  obtain ⟨a, ea, -, -⟩ := DataW.trod_int hI t0
  obtain ⟨b, eb, -, -⟩ := DataW.trod_int hI t1
  obtain ⟨n, f, u, eu, hn', -, hr⟩ := open_intsB hL hI hc hby t2 w2
  obtain rfl : u0 = .int .i64 a := by simpa using ea
  obtain rfl : u1 = .int .i64 b := by simpa using eb
  obtain rfl : u2 = u := by simpa using eu
  refine ⟨a, b, n, f, hn', ?_⟩
  match cs, hl with
  | [c0, c1, c2], _ =>
    simp at k0 k1 k2
    subst k0 k1 k2
    exact ⟨⟨rfl, rfl⟩, ⟨rfl, rfl⟩, hr, trivial⟩
theorem mem_wAll {e : TypeId} {k : Nat} : ∀ {l : List (DataW H)} {d : DataW H}, d ∈ l → k ∈ d.weights P e → k ∈ DataW.weightsAll P e l
  | x :: r, d, hd, hk => by
    unfold DataW.weightsAll
    rcases List.mem_cons.1 hd with h | h
    · rw [h] at hk
      exact List.mem_append_left _ hk
    · exact List.mem_append_right _ (mem_wAll h hk)
/-- A list of lists of numbers that came in. -/
theorem open_listsB {t L I : TypeId} {fuel : Nat} {cs : List Value} {d : DataW H} {ps : List MemPlace} (ht : P.underlying t = some (.slice L)) (hL : P.underlying L = some (.slice I)) (hI : P.underlying I = some (.int .i64)) (cL : P.cellsOf L = 1) (cI : P.cellsOf I = 1) (bI : P.bytesOf I = 8) (bL : P.bytesOf L = 24)
    (h : DataW.trod enc P W 0 (fun _ => true) true fuel t cs = some (d, ps)) (hw : ∀ k ∈ d.weights P t, k ≤ reachBytes) :
    ∃ (n : Nat) (ml : Nat → Nat) (mg : Nat → Nat → Int) (u : Value), cs = [u] ∧ n ≤ 4611686018427387904 ∧ (∀ k, k < n → ml k ≤ 4611686018427387904) ∧ RepC (fun _ => none) O0 W (.ls n 1 (fun k _ => .ls (ml k) 1 (iF (mg k)))) u := by
  rcases DataW.trod_slice ht h with ⟨rfl, _⟩ | ⟨a, len, cap, elems, rest, m, _, rfl, hx, _, hl, _, hlen, hel, _, _⟩
  · exact ⟨0, fun _ => 0, fun _ _ => 0, _, rfl, by omega, fun k hk => absurd hk (Nat.not_lt_zero k), nil_rep⟩
  · obtain ⟨rfl, -⟩ := Prod.mk.injEq .. ▸ hx
    have hb := hw (((elems.map (·.1)).length + (rest.map (·.1)).length) * P.bytesOf L) (by simp only [DataW.weights, ht]; exact List.mem_cons_self ..)
    rw [bL] at hb
    have hr := reachBytes_lt
    have key : ∀ k, ∃ (ml : Nat) (mg : Nat → Int), k < len → ml ≤ 4611686018427387904 ∧ ∃ v, W.cell? (a.add k) = some v ∧ RepC (fun _ => none) O0 W (.ls ml 1 (iF mg)) v := fun k => by
      by_cases hk : k < len
      · have e := hel k hk
        rw [cL, List.getElem?_eq_getElem (by omega)] at e
        obtain ⟨l, e1, e2⟩ := Option.bind_eq_some_iff.1 e
        obtain ⟨n, f, u, rfl, h1, -, h2⟩ := open_intsB hL hI cI bI (d := (elems[k]'(by omega)).1) (ps := (elems[k]'(by omega)).2) e2 (fun q hq => hw q (by
          simp only [DataW.weights, ht]
          exact List.mem_cons_of_mem _ (List.mem_append_left _ (mem_wAll (List.mem_map.2 ⟨_, List.getElem_mem (by omega), rfl⟩) hq))))
        exact ⟨n, f, fun _ => ⟨h1, u, by simpa using cell_of_cells?_one e1, h2⟩⟩
      · exact ⟨0, fun _ => 0, fun h => absurd h hk⟩
    refine ⟨len, fun k => (key k).choose, fun k => (key k).choose_spec.choose, _, rfl, ?_, fun k hk => ((key k).choose_spec.choose_spec hk).1, rfl, some a, cap, rfl, hl, fun k hk j hj => ?_⟩
    · simp only [List.length_map] at hb
      omega
    · obtain rfl : j = 0 := by omega
      obtain ⟨-, v, g1, g2⟩ := (key k).choose_spec.choose_spec hk
      exact ⟨a, v, rfl, fun h => h, by simpa using g1, g2.1, g2.2⟩
end
end Go.AV
end

section
/- Chapter 33: a case that came in. No condition. -/
namespace Go.Proofs.Ytcdnpnbjloaihaa
open Go.RowKit Go.Flow Go.AV Go.Plain Go.WideShapes Go.ChangeShapes
theorem open_caseB {H : Type} {enc : TypeId × Value → H} {P : Program} {W : World} {t LL L I : TypeId} {fs : Array Field} {fuel : Nat} {cs : List Value} {d : DataW H} {ps : List MemPlace} (ht : P.underlying t = some (.struct fs)) (hn : P.cellsOf t = 5) (hs : fs.size = 5) (ho : ∀ (i : Nat) (f : Field), fs[i]? = some f → f.offset = i ∧ P.cellsOf f.type = 1)
    (h0 : fs[0]?.map (·.type) = some LL) (h1 : fs[1]?.map (·.type) = some L) (h2 : fs[2]?.map (·.type) = some I) (h3 : fs[3]?.map (·.type) = some I) (h4 : fs[4]?.map (·.type) = some L)
    (hLL : P.underlying LL = some (.slice L)) (hI : P.underlying I = some (.int .i64)) (hL : P.underlying L = some (.slice I)) (cL : P.cellsOf L = 1) (cI : P.cellsOf I = 1) (bI : P.bytesOf I = 8) (bL : P.bytesOf L = 24)
    (h : DataW.trod enc P W 0 (fun _ => true) true fuel t cs = some (d, ps)) (hw : ∀ k ∈ d.weights P t, k ≤ reachBytes) :
    ∃ c : Case, c.ok ∧ RepL (RepC (fun _ => none) O0 W) (caC c) cs := by
  obtain ⟨hl, hx⟩ := open_st ht hn hs ho h hw
  obtain ⟨f0, g0, rfl⟩ := get_fld h0
  obtain ⟨f1, g1, rfl⟩ := get_fld h1
  obtain ⟨f2, g2, rfl⟩ := get_fld h2
  obtain ⟨f3, g3, e3⟩ := get_fld h3
  obtain ⟨f4, g4, e4⟩ := get_fld h4
  obtain ⟨u0, d0, p0, m0, k0, t0, w0⟩ := hx 0 f0 g0
  obtain ⟨u1, d1, p1, m1, k1, t1, w1⟩ := hx 1 f1 g1
  obtain ⟨u2, d2, p2, m2, k2, t2, -⟩ := hx 2 f2 g2
  obtain ⟨u3, d3, p3, m3, k3, t3, -⟩ := hx 3 f3 g3
  obtain ⟨u4, d4, p4, m4, k4, t4, w4⟩ := hx 4 f4 g4
  rw [e3] at t3
  rw [e4] at t4 w4
  obtain ⟨a, ea, -, wa⟩ := DataW.trod_int hI t2
  obtain ⟨b, eb, -, wb⟩ := DataW.trod_int hI t3
  obtain ⟨N, ml, mg, v0, q0, hN, hml, r0⟩ := open_listsB hLL hL hI cL cI bI bL t0 w0
  obtain ⟨M, sh, v1, q1, hM, -, r1⟩ := open_intsB hL hI cI bI t1 w1
  obtain ⟨B, bl, v4, q4, hB, hbl, r4⟩ := open_intsB hL hI cI bI t4 w4
  obtain rfl : u2 = .int .i64 a := by simpa using ea
  obtain rfl : u3 = .int .i64 b := by simpa using eb
  obtain rfl : u0 = v0 := by simpa using q0
  obtain rfl : u1 = v1 := by simpa using q1
  obtain rfl : u4 = v4 := by simpa using q4
  refine ⟨⟨N, ml, mg, M, sh, a, b, B, bl⟩, ⟨hml, hM, hN, hB, wf_i64 wa, wf_i64 wb, hbl⟩, ?_⟩
  match cs, hl with
  | [c0, c1, c2, c3, c4], _ =>
    simp at k0 k1 k2 k3 k4
    subst k0 k1 k2 k3 k4
    exact ⟨r0, r1, ⟨rfl, rfl⟩, ⟨rfl, rfl⟩, r4, trivial⟩
end Go.Proofs.Ytcdnpnbjloaihaa
end

section
/- What a row's arguments are to a walk: arrays of numbers. No condition. -/
namespace Go.Flow
open Go Go.RowKit Go.WideShapes Go.ChangeShapes
section
variable {P : Program} {W : World}
/-- Cells that are all numbers. -/
theorem row_ints {r : Reach} {base : Nat} {t u : TypeId} {n : Nat} {cs : Array Value} (hts : P.cellTypes P.depth t = some (List.replicate n u)) (hu : P.underlying u = some (.int .i64)) (hs : cs.size = n)
    (h : Row.okWide P W r base t cs) : ∃ f : Nat → Int, ∀ i, i < n → cs[i]? = some (.int .i64 (f i)) := by
  obtain ⟨ts, e, _, hel⟩ := h
  obtain rfl : ts = List.replicate n u := Option.some.inj (e.symm.trans hts)
  refine ⟨fun i => match cs[i]? with | some (.int _ k) => k | _ => 0, fun i hi => ?_⟩
  have hc : cs[i]? = some cs[i] := Array.getElem?_eq_getElem (by omega)
  obtain ⟨u', hu', hok⟩ := hel i _ hc
  rw [List.length_replicate, Nat.mod_eq_of_lt hi, List.getElem?_replicate, if_pos hi] at hu'
  obtain rfl := Option.some.inj hu'
  rw [hc]
  unfold Cell.okWide at hok
  rw [hu] at hok
  generalize cs[i] = v at *
  cases v <;> simp_all [Cell.ok]
theorem eight {cs : Array Value} {f : Nat → Int} (hs : cs.size = 8) (h : ∀ i, i < 8 → cs[i]? = some (.int .i64 (f i))) :
    cs = #[.int .i64 (f 0), .int .i64 (f 1), .int .i64 (f 2), .int .i64 (f 3), .int .i64 (f 4), .int .i64 (f 5), .int .i64 (f 6), .int .i64 (f 7)] := by
  refine Array.ext (by simpa using hs) fun i h1 h2 => ?_
  have hi : i < 8 := by omega
  have := h i hi
  rw [Array.getElem?_eq_getElem h1] at this
  rw [Option.some.inj this]
  match i, hi with
  | 0, _ => rfl
  | 1, _ => rfl
  | 2, _ => rfl
  | 3, _ => rfl
  | 4, _ => rfl
  | 5, _ => rfl
  | 6, _ => rfl
  | 7, _ => rfl
end
end Go.Flow
end
