/- Parts of the proof: Tally, PbTog, RbMost, PbPlain. -/
import Derived.Test.YtcdnpnbjloaihaaG02
import Derived.WideKeyEntry
import Derived.DeepKeys4
import Derived.Maps.Own
import Derived.Maps.OwnOps
import Derived.Maps.Views
import Derived.Test.YtcdnpnbjloaihaaProg
import Derived.Test.YtcdnpnbjloaihaaG13
import Derived.Test.YtcdnpnbjloaihaaG17
import Derived.RegionTactic
import Derived.BigRegion
import Derived.Deep.DeepCutAuto
import Derived.Test.YtcdnpnbjloaihaaG14
set_option linter.unusedSimpArgs false
set_option linter.unusedVariables false
section
/- A map that counts, and 'm[k]++'. No condition but those that each states. -/
namespace Go.Flow
open Go Go.RowKit Go.ChangeMaps Go.MapKept Go.Maps
open Go.WideElems (Fit rd rg pl rd_val elemAt set_self)
open Go.WideMaps (KeyLaw)

/-- Block b is a map that holds g. -/
def TallyOf (P : Program) (k e : TypeId) (w : World) (b N : Nat) (g : Value → Int) : Prop :=
  ∃ D : DataW Unit, w.ownsMap P k (plainElem P e) b N D ∧ IsMap D ∧ ∀ key kl, keyOf P k key = some kl → D.atKey kl (.lit (.int .i64 0)) = .lit (.int .i64 (g key))

section
variable {P : Program} {t k e : TypeId} {w : World} {b N : Nat} {g : Value → Int}
theorem TallyOf.lt (h : TallyOf P k e w b N g) : b < w.heap.size := let ⟨_, ho, _⟩ := h; ho.lt
theorem TallyOf.kept {w' : World} {row : Option Nat} (h : TallyOf P k e w b N g) (hg : w.grownBy w' row) (hne : some b ≠ row) : TallyOf P k e w' b N g := let ⟨D, ho, hr⟩ := h; ⟨D, ho.kept hg hne, hr⟩
theorem TallyOf.ext {w' : World} (h : TallyOf P k e w b N g) (hE : Ext w w') : TallyOf P k e w' b N g := h.kept (row := none) ⟨hE.os, hE.tape, hE.output, hE.size, fun i hi _ => Below.block hE i hi⟩ (by simp)
theorem TallyOf.made (w : World) (P : Program) (k e : TypeId) : TallyOf P k e (w.alloc (.map #[] 0)) w.heap.size 0 (fun _ => 0) :=
  ⟨.map [], World.ownsMap_made w P k _, ⟨[], rfl⟩, fun _ _ _ => rfl⟩
open Classical in
noncomputable def updV (g : Value → Int) (key : Value) (v : Int) (x : Value) : Int := if x = key then v else g x
theorem updV_same (g : Value → Int) (key : Value) (v : Int) : updV g key v key = v := by simp [updV]
theorem updV_other {g : Value → Int} {key x : Value} {v : Int} (h : x ≠ key) : updV g key v x = g x := by simp [updV, h]
theorem setBlock_two (w : World) (b : Nat) (x y : Obj) : setBlock (setBlock w b x) b y = setBlock w b y := by simp [setBlock]

theorem TallyOf.look (K : KeyLaw P k) (ht : P.underlying t = some (.map k e)) (he : P.underlying e = some (.int .i64)) (hz : ∀ u : World, (zeroValue e).run P u = .ok (.int .i64 0) u)
    (h : TallyOf P k e w b N g) {key : Value} {kl : Lit} (hkey : keyOf P k key = some kl) : (Instr.lookup t (.map (some b)) key false).run P w = .ok (.int .i64 (g key)) w := by
  obtain ⟨D, hown, hD, hat⟩ := h
  obtain ⟨c, hrun, hc, -⟩ := hown.lookup_int (Keyed.of_law K) ht he (hz w) hkey
  rw [hat key kl hkey] at hc
  have : g key = c := by injection hc with hc; injection hc
  rw [this]
  exact hrun

/-- 'm[key]++', in whatever order. -/
theorem TallyOf.step (K : KeyLaw P k) (ht : P.underlying t = some (.map k e)) (he : P.underlying e = some (.int .i64)) (hz : ∀ u : World, (zeroValue e).run P u = .ok (.int .i64 0) u)
    (h : TallyOf P k e w b N g) (hN : N + 1 < maxLen) {key : Value} {kl : Lit} (hkey : keyOf P k key = some kl) (hwf : (Lit.int .i64 (g key + 1)).wf = true) :
    ∃ (v0 : Value) (st : Nat) (W3 W4 : World), (Instr.mapEntry t (.map (some b)) key).run P w = .ok (.tuple #[v0, goInt st]) W3 ∧ (Instr.lookup t (.map (some b)) key false).run P W3 = .ok (.int .i64 (g key)) W3 ∧
      (Instr.entryStore t (.map (some b)) (goInt st) (.int .i64 (g key + 1))).run P W3 = .ok () W4 ∧ TallyOf P k e W4 b (N + 1) (updV g key (g key + 1)) ∧ w.grownBy W3 (some b) ∧ w.grownBy W4 (some b) := by
  have hlook := h.look K ht he hz hkey
  obtain ⟨D, hown, hD, hat⟩ := h
  have hown' := hown
  obtain ⟨es, clock, hb, F, hs, hDe⟩ := hown'
  obtain ⟨v0, st, es1, clock1, hE, -, hS⟩ := WideElems.entry_then_store K ht hz hb F hkey
  have hb3 := heap_setBlock_same hb (.map es1 clock1)
  obtain ⟨es', clock', hST, hMU⟩ := hS _ (.int .i64 (g key + 1)) hb3
  rw [setBlock_two] at hST
  have hK := Keyed.of_law K
  have hgr : ∀ o : Obj, w.grownBy (setBlock w b o) (some b) := fun o => ⟨rfl, rfl, rfl, by simp [setBlock], fun i _ hi => heap_setBlock_other hb o (fun e => hi (by rw [e]))⟩
  obtain ⟨w', hrun, hown2, -⟩ := hown.update hK ht (by omega) hkey (plainElem_int he hwf)
  have hw' : w' = setBlock w b (.map es' clock') := by rw [hMU] at hrun; injection hrun with _ h; exact h.symm
  refine ⟨v0, st, _, _, hE, ?_, hST, ⟨_, hw' ▸ hown2, by obtain ⟨l, rfl⟩ := hD; exact ⟨_, rfl⟩, fun x xl hx => ?_⟩, hgr _, hgr _⟩
  · have hTal : TallyOf P k e (setBlock w b (.map es1 clock1)) b (N + 1) g := by
      rcases K.find w hkey es.toList F.keys with ⟨h1, h2⟩ | ⟨j, e0, h1, h2, h3⟩
      · have hg0 : g key = 0 := by
          have : (Instr.lookup t (.map (some b)) key false).run P w = .ok (.int .i64 0) w := by
            simp [Instr.lookup, run_underlying ht, MapKept.run_getObj_map hb, K.check w _ hkey, h1, hz, Result.andThen]
          rw [hlook] at this
          injection this with h; injection h
        have hE2 : (Instr.mapEntry t (.map (some b)) key).run P w = .ok (.tuple #[.int .i64 0, goInt clock]) (setBlock w b (.map (es.push ⟨key, .int .i64 0, clock⟩) (clock + 1))) := by
          simp [Instr.mapEntry, run_underlying ht, MapKept.run_getObj_map hb, K.check w false hkey, h1, hz, MapKept.run_setObj_map _ hb, Result.andThen, setBlock]
        have hW : setBlock w b (.map es1 clock1) = setBlock w b (.map (es.push ⟨key, .int .i64 0, clock⟩) (clock + 1)) := by rw [hE] at hE2; injection hE2
        have hU : (Instr.mapUpdate t (.map (some b)) key (.int .i64 0)).run P w = .ok () (setBlock w b (.map (es.push ⟨key, .int .i64 0, clock⟩) (clock + 1))) := by
          simp [Instr.mapUpdate, run_underlying ht, MapKept.run_getObj_map hb, K.check w false hkey, h1, MapKept.run_setObj_map _ hb, Result.andThen, setBlock]
        obtain ⟨w5, hrun5, hown5, -⟩ := hown.update hK ht (by omega) hkey (plainElem_int he (a := 0) (by decide))
        have hw5 : w5 = setBlock w b (.map (es.push ⟨key, .int .i64 0, clock⟩) (clock + 1)) := by rw [hU] at hrun5; injection hrun5 with _ h; exact h.symm
        rw [hW]
        refine ⟨_, hw5 ▸ hown5, by obtain ⟨l, rfl⟩ := hD; exact ⟨_, rfl⟩, fun x xl hx => ?_⟩
        by_cases hl : xl = kl
        · subst hl
          rw [atKey_put_same hD (hK.key hkey), hK.inj hx hkey, hg0]
        · rw [atKey_put_other hl]; exact hat x xl hx
      · have hj : es[j]? = some e0 := by simpa using h2
        have hsame : es.modify j (fun e => { e with key := key }) = es := by
          apply Array.ext'
          rw [Array.toList_modify, modify_eq_set _ _ _ _ h2]
          have : ({ e0 with key := key } : MapEntry) = e0 := by rw [← h3]
          rw [this]
          exact set_self _ _ _ h2
        have hE2 : (Instr.mapEntry t (.map (some b)) key).run P w = .ok (.tuple #[e0.val, goInt e0.born]) (setBlock w b (.map es clock)) := by
          simp [Instr.mapEntry, run_underlying ht, MapKept.run_getObj_map hb, K.check w false hkey, h1, hj, h3, K.stays w hkey, hsame, MapKept.run_setObj_map _ hb, Result.andThen, setBlock]
        have hW : setBlock w b (.map es1 clock1) = setBlock w b (.map es clock) := by rw [hE] at hE2; injection hE2
        rw [hW]
        exact ⟨D, ⟨es, clock, heap_setBlock_same hb _, F, by omega, hDe⟩, hD, hat⟩
    exact hTal.look K ht he hz hkey
  · by_cases hl : xl = kl
    · subst hl
      rw [atKey_put_same hD (hK.key hkey), hK.inj hx hkey, updV_same]
    · rw [atKey_put_other hl, updV_other (fun (e : x = key) => by subst e; rw [hkey] at hx; injection hx with h; exact hl h.symm)]
      exact hat x xl hx

/-- An array of n ints is a key. -/
theorem key_of_ints {E n : Nat} {xs : List Int} (hu : P.underlying k = some (.array n E)) (hE : P.underlying E = some (.int .i64)) (hc : P.cellsOf k = n) (hcE : P.cellsOf E = 1) (hk : P.keyType k = true) (hts : 0 < P.types.size)
    (hn : xs.length = n) (hwf : ∀ x ∈ xs, (Lit.int .i64 x).wf = true) : ∃ kl, keyOf P k (.agg (xs.map (Value.int .i64)).toArray) = some kl := by
  have hform : (Value.agg (xs.map (Value.int .i64)).toArray).formed P k = true := by simp [Value.formed, hu, hc, hn]
  obtain ⟨d, hd⟩ : ∃ d, P.types.size = d + 1 := ⟨P.types.size - 1, by omega⟩
  have hcells : (Value.agg (xs.map (Value.int .i64)).toArray).cells.toList = xs.map (Value.int .i64) := by simp [Value.cells]
  have hm : ∀ l : List Nat, (∀ i ∈ l, i < n) → ∃ ys, (l.mapM fun i => P.keyLits (d + 1) E (((xs.map (Value.int .i64)).drop (i * P.cellsOf E)).take (P.cellsOf E))) = some ys := by
    intro l
    induction l with
    | nil => exact fun _ => ⟨[], rfl⟩
    | cons i l ih =>
      intro hl
      obtain ⟨ys, hys⟩ := ih fun j hj => hl j (List.mem_cons_of_mem _ hj)
      have hi : i < xs.length := by rw [hn]; exact hl i (List.mem_cons_self ..)
      have h1 : ((xs.map (Value.int .i64)).drop (i * P.cellsOf E)).take (P.cellsOf E) = [.int .i64 xs[i]] := by
        rw [hcE, Nat.mul_one, List.drop_eq_getElem_cons (by simpa using hi)]
        simp
      have h2 : P.keyLits (d + 1) E [.int .i64 xs[i]] = some [.int .i64 xs[i]] := by
        unfold Program.keyLits
        rw [hE]
        simp only [true_and]
        rw [if_pos (hwf _ (List.getElem_mem hi))]
      refine ⟨[.int .i64 xs[i]] :: ys, ?_⟩
      rw [List.mapM_cons, h1, h2, hys]
      rfl
  obtain ⟨ys, hys⟩ := hm (List.range n) fun i hi => by simpa using hi
  unfold keyOf
  rw [hu]
  simp only [hk, hform, Bool.and_self, if_true]
  rw [hcells, hd]
  unfold Program.keyLits
  rw [hu]
  simp only [List.length_map]
  rw [if_pos (by rw [hc, hn]), hys]
  exact ⟨_, rfl⟩
end
end Go.Flow
end

section
/- probe.together. No condition but those that each states. -/
namespace Go.Proofs.Ytcdnpnbjloaihaa
open Go.RowKit Go.Flow Go.Plain
open Go.Proofs
attribute [local go_sem] block_add
attribute [local go_sem ↓] Go.wp_at_zero Go.wp_at_succ

/-- A list of images, in one block. -/
structure Imgs (w : World) (g n : Nat) (W H : Nat → Int) (A : Nat → Option Addr) (m c : Nat → Nat) (f : Nat → Nat → Int) : Prop where
  w_ : ∀ k, k < n → w.cell? ⟨g, k * 3, none⟩ = some (.int .i64 (W k))
  h_ : ∀ k, k < n → w.cell? ⟨g, k * 3 + 1, none⟩ = some (.int .i64 (H k))
  p_ : ∀ k, k < n → w.cell? ⟨g, k * 3 + 2, none⟩ = some (.slice (A k) (m k) (c k))
  px : ∀ k, k < n → Ints w (A k) (m k) (f k)
theorem Imgs.ext {w w' : World} {g n : Nat} {W H : Nat → Int} {A : Nat → Option Addr} {m c : Nat → Nat} {f : Nat → Nat → Int} (h : Imgs w g n W H A m c f) (hE : Ext w w') : Imgs w' g n W H A m c f :=
  have cl : ∀ {p : Addr} {v : Value}, w.cell? p = some v → w'.cell? p = some v := fun {p} {v} h => (hE.rules.1 p (World.block_lt_of_cell? w p h)).trans h
  ⟨fun k hk => cl (h.w_ k hk), fun k hk => cl (h.h_ k hk), fun k hk => cl (h.p_ k hk), fun k hk => (h.px k hk).ext hE⟩

/-- What one image shows in the unknown pixels, in order. -/
def patL (U : Nat → Bool) (s : Nat → Int) (p : Nat) : List Int := ((List.range p).filter U).map s
def padL (l : List Int) : List Int := (List.range 16).map fun j => l.getD j 0
def arr (l : List Int) : Array Value := ((padL l).map (Value.int .i64)).toArray
theorem patL_succ (U : Nat → Bool) (s : Nat → Int) (p : Nat) : patL U s (p + 1) = patL U s p ++ (if U p then [s p] else []) := by
  unfold patL
  rw [List.range_succ, List.filter_append, List.map_append]
  cases h : U p <;> simp [h]
theorem patL_len (U : Nat → Bool) (s : Nat → Int) : ∀ p, ((patL U s p).length : Int) = cnt U p
  | 0 => rfl
  | p + 1 => by
    rw [patL_succ, List.length_append, cnt_succ, ← patL_len U s p]
    cases h : U p <;> simp
theorem arr_size (l : List Int) : (arr l).size = 16 := by simp [arr, padL]
theorem arr_get (l : List Int) {j : Nat} (hj : j < 16) : (arr l)[j]? = some (.int .i64 (l.getD j 0)) := by
  simp [arr, padL, List.getElem?_range hj]
theorem arr_snoc (l : List Int) (x : Int) (h : l.length < 16) : (arr l).setIfInBounds l.length (.int .i64 x) = arr (l ++ [x]) := by
  apply Array.ext_getElem?
  intro j
  rcases Nat.lt_or_ge j 16 with hj | hj
  · rw [arr_get _ hj]
    by_cases e : j = l.length
    · subst e
      rw [Array.getElem?_setIfInBounds_self_of_lt (by rw [arr_size]; omega)]
      simp [List.getD]
    · rw [Array.getElem?_setIfInBounds_ne (Ne.symm e), arr_get _ hj]
      congr 2
      rcases Nat.lt_or_ge j l.length with h1 | h1
      · simp [List.getD, List.getElem?_append_left h1]
      · simp only [List.getD]
        rw [List.getElem?_eq_none h1, List.getElem?_append_right h1, List.getElem?_eq_none (by simp; omega)]
  · rw [Array.getElem?_eq_none (by simp [arr_size]; omega), Array.getElem?_eq_none (by rw [arr_size]; omega)]
theorem arr_lit (l : List Int) : arr l = #[.int .i64 (l.getD 0 0), .int .i64 (l.getD 1 0), .int .i64 (l.getD 2 0), .int .i64 (l.getD 3 0), .int .i64 (l.getD 4 0), .int .i64 (l.getD 5 0), .int .i64 (l.getD 6 0), .int .i64 (l.getD 7 0),
    .int .i64 (l.getD 8 0), .int .i64 (l.getD 9 0), .int .i64 (l.getD 10 0), .int .i64 (l.getD 11 0), .int .i64 (l.getD 12 0), .int .i64 (l.getD 13 0), .int .i64 (l.getD 14 0), .int .i64 (l.getD 15 0)] := rfl

theorem blk_law : WideMaps.KeyLaw Try.prog 91 := deep_law_laid (by kernel_rfl) (m := 2) (by omega) (of_decide_eq_true (by kernel_rfl)) (by kernel_rfl) (by rw [Try.underlying91])
theorem key_arr (l : List Int) (h : ∀ x ∈ l, 0 ≤ x ∧ x ≤ 2) : ∃ kl, keyOf Try.prog 91 (.agg (arr l)) = some kl := by
  refine key_of_ints (E := 3) (n := 16) Try.underlying91 Try.underlying3 (by kernel_rfl) (by kernel_rfl) (by kernel_rfl) (of_decide_eq_true (by kernel_rfl)) (by simp [padL]) (fun x hx => ?_)
  simp only [padL, List.mem_map, List.mem_range] at hx
  obtain ⟨j, -, rfl⟩ := hx
  have hb : 0 ≤ l.getD j 0 ∧ l.getD j 0 ≤ 2 := by
    rcases Nat.lt_or_ge j l.length with h1 | h1
    · rw [List.getD, List.getElem?_eq_getElem h1]; exact h _ (List.getElem_mem h1)
    · rw [List.getD, List.getElem?_eq_none h1]; simp
  generalize l.getD j 0 = y at hb
  have : y = 0 ∨ y = 1 ∨ y = 2 := by omega
  rcases this with rfl | rfl | rfl <;> decide

theorem lit_wf {x : Int} (h0 : 0 ≤ x) (h1 : x ≤ 1000000) : (Lit.int .i64 x).wf = true := by
  have e1 : IntKind.i64.min = -9223372036854775808 := by decide
  have e2 : IntKind.i64.max = 9223372036854775807 := by decide
  show (decide (IntKind.i64.min ≤ x) && decide (x ≤ IntKind.i64.max)) = true
  rw [e1, e2]
  simp
  omega
noncomputable def gK (key : Nat → Value) : Nat → Value → Int
  | 0 => fun _ => 0
  | k + 1 => updV (gK key k) (key k) (gK key k (key k) + 1)
noncomputable def mK (key : Nat → Value) : Nat → Int
  | 0 => 0
  | k + 1 => max (mK key k) (gK key k (key k) + 1)
theorem gK_bd (key : Nat → Value) : ∀ k v, 0 ≤ gK key k v ∧ gK key k v ≤ k
  | 0, _ => ⟨Int.le_refl _, Int.le_refl _⟩
  | k + 1, v => by
    have h1 := gK_bd key k v
    have h2 := gK_bd key k (key k)
    unfold gK
    by_cases e : v = key k
    · subst e; rw [updV_same]; omega
    · rw [updV_other e]; omega

theorem put1_any (p q gi gb gn m c : Nat) (a b : Int) (B : Option Addr) (s : Nat → Int) (l : List Int) (V : World) (hi : Blk V gi 27 #[.int .i64 a, .int .i64 b, .slice B m c]) (hb : Blk V gb 91 (arr l)) (hn : Blk V gn 3 #[.int .i64 (q : Int)])
    (hB : Ints V B m s) (hp : p < m) (hm : m ≤ 1000000) (hq : q < 16) :
    Calls Try.prog 50 #[.int .i64 (p : Int), .pointer (some ⟨gi, 0, none⟩), .pointer (some ⟨gb, 0, none⟩), .pointer (some ⟨gn, 0, none⟩)] V fun e V' => (∃ u, e = .returned u) ∧ ∃ V1, Ext V V1 ∧ (V1.setCell ⟨gb, q, none⟩ (.int .i64 (s p))).setCell ⟨gn, 0, none⟩ (.int .i64 ((q : Int) + 1)) = V' := by
  obtain ⟨ic, iff, il⟩ := hi.rules
  obtain ⟨nc, nf, nl⟩ := hn.rules
  have hbl := hb.lt
  have hne := blk_ne hb hn (by decide)
  obtain ⟨ad, rfl, hc⟩ := hB p hp
  have hal := lt_of_cell hc
  have hp' : (p : Int) < m := by omega
  have hq' : (q : Int) < 16 := by omega
  obtain ⟨gv, hgv⟩ : ∃ gv, s p = gv := ⟨_, rfl⟩
  rw [hgv]
  simp only [hgv] at hc
  replace hgv := Lib.hid hgv
  go_enter Try.func50, Try.ntmps50
  go_wp2_with fail
  refine Flow.wp_flow 7 [(0, true), (1, true), (2, true), (3, true), (4, true), (5, true), (6, true)] (by kernel_rfl) (by kernel_rfl) ?_
  simp only [List.map_cons, List.map_nil, List.getD_cons_succ, List.getD_cons_zero]
  repeat (first
    | (refine Flow.WalkL.move rfl ?_
       simp only [Act.put, Act.eval, Array.getD_eq_getD_getElem?, List.getElem?_toArray, List.getElem?_cons_succ, List.getElem?_cons_zero, Option.getD_some, List.setIfInBounds_toArray, List.set_cons_zero, List.set_cons_succ])
    | (refine Flow.WalkL.assign rfl ?_
       simp only [Act.put, Act.eval, Array.getD_eq_getD_getElem?, List.getElem?_toArray, List.getElem?_cons_succ, List.getElem?_cons_zero, Option.getD_some, List.setIfInBounds_toArray, List.set_cons_zero, List.set_cons_succ])
    | (refine Flow.WalkL.run (v := ?_) rfl (fun w1 hC => ?_) ?_
       rotate_left
       · obtain ⟨hCc, hCf⟩ := hC.rules
         go_simp
         with_reducible rfl
       simp only [Act.put, List.setIfInBounds_toArray, List.set_cons_zero, List.set_cons_succ]))
  refine Flow.WalkL.nil ?_
  simp only [List.drop]
  intro v1 hv1
  obtain ⟨bc, bf, bl⟩ := (hb.ext hv1).rules
  obtain ⟨nc1, nf1, nl1⟩ := (hn.ext hv1).rules
  have hgcp : v1.cell? ⟨gb, q, none⟩ = some (.int .i64 (l.getD q 0)) := by rw [bc]; exact arr_get l hq
  clear bc ic iff hc hal il nc nf
  go_wp2_with fail
  go_end0
  exact ⟨⟨_, rfl⟩, v1, hv1, rfl⟩


set_option maxHeartbeats 1000000 in
set_option maxRecDepth 100000 in
theorem together_any (Wn Hn n c : Nat) (A : Option Addr) (f : Nat → Int) (gs N cN : Nat) (Ws Hs : Nat → Int) (As : Nat → Option Addr) (cs : Nat → Nat) (fs : Nat → Nat → Int) (a b c1 d : Int) (w : World)
    (hW : Wn ≤ 100) (hH : Hn ≤ 100) (hn' : n = Wn * Hn) (hA : Ints w A n f) (hI : Imgs w gs N Ws Hs As (fun _ => n) cs fs) (hN : N ≤ 1000) (hU : cnt (unkB Wn f a b c1 d) n ≤ 16) (hfs : ∀ k, k < N → ∀ j, j < n → 0 ≤ fs k j ∧ fs k j ≤ 2) :
    Calls Try.prog 38 #[img Wn Hn A n c, .slice (some ⟨gs, 0, none⟩) N cN, rct a b c1 d] w fun e w' => e = .returned (.int .i64 (mK (fun k => .agg (arr (patL (unkB Wn f a b c1 d) (fs k) n))) N)) ∧ Ext w w' := by
  obtain ⟨U, hUe⟩ : ∃ U, unkB Wn f a b c1 d = U := ⟨_, rfl⟩
  obtain ⟨key, hkey⟩ : ∃ key : Nat → Value, (fun k => .agg (arr (patL (unkB Wn f a b c1 d) (fs k) n))) = key := ⟨_, rfl⟩
  have hkeyk : ∀ k, key k = .agg (arr (patL U (fs k) n)) := fun k => by rw [← hkey, hUe]
  rw [hkey]
  rw [hUe] at hU
  clear hkey
  have hnb : n ≤ 10000 := by subst hn'; exact Nat.mul_le_mul hW hH
  have hkl : ∀ k, k < N → ∃ kl, keyOf Try.prog 91 (key k) = some kl := fun k hk => by
    rw [hkeyk]
    refine key_arr _ fun x hx => ?_
    simp only [patL, List.mem_map, List.mem_filter, List.mem_range] at hx
    obtain ⟨j, ⟨hj, -⟩, rfl⟩ := hx
    exact hfs k hk j hj
  have hlen := patL_len U
  replace hU := Lib.hid hU
  replace hUe := Lib.hid hUe
  replace hkeyk := Lib.hid hkeyk
  replace hkl := Lib.hid hkl
  replace hlen := Lib.hid hlen
  replace hn' := Lib.hid hn'
  replace hfs := Lib.hid hfs
  have hmm := @run_makeMap Try.prog
  have hE0 := Lib.hid ((((Ext.refl w).alloc (.cells #[.int .i64 Wn, .int .i64 Hn, .slice A n c] 27)).alloc (.cells #[.int .i64 a, .int .i64 b, .int .i64 c1, .int .i64 d] 29)).alloc (.map #[] 0))
  have hX0 := Lib.hid (((Blk.new w 27 #[.int .i64 Wn, .int .i64 Hn, .slice A n c]).alloc (.cells #[.int .i64 a, .int .i64 b, .int .i64 c1, .int .i64 d] 29)).alloc (.map #[] 0))
  have hR0 := Lib.hid ((Blk.new' (g := w.heap.size + 1) (w := w.alloc (.cells #[.int .i64 Wn, .int .i64 Hn, .slice A n c] 27)) (by simp) 29 #[.int .i64 a, .int .i64 b, .int .i64 c1, .int .i64 d]).alloc (.map #[] 0))
  have hT0 : TallyOf Try.prog 91 3 (((w.alloc (.cells #[.int .i64 Wn, .int .i64 Hn, .slice A n c] 27)).alloc (.cells #[.int .i64 a, .int .i64 b, .int .i64 c1, .int .i64 d] 29)).alloc (.map #[] 0)) (w.heap.size + 1 + 1) 0 (gK key 0) := by
    have := TallyOf.made ((w.alloc (.cells #[.int .i64 Wn, .int .i64 Hn, .slice A n c] 27)).alloc (.cells #[.int .i64 a, .int .i64 b, .int .i64 c1, .int .i64 d] 29)) Try.prog 91 3
    simpa [gK] using this
  replace hT0 := Lib.hid hT0
  go_enter Try.func38, Try.ntmps38
  go_wp2_with fail
  go_loopw [8, 16] (fun m i wr => ∃ k : Nat, k ≤ N ∧ i = .int .i64 k ∧ m = .int .i64 (mK key k) ∧ Blk wr w.heap.size 27 #[.int .i64 Wn, .int .i64 Hn, .slice A n c] ∧ Blk wr (w.heap.size + 1) 29 #[.int .i64 a, .int .i64 b, .int .i64 c1, .int .i64 d] ∧
    TallyOf Try.prog 91 3 wr (w.heap.size + 1 + 1) k (gK key k) ∧ Ext w wr) (fun _ i _ => N - (intOf i).toNat)
  case atStart => exact ⟨0, by omega, rfl, rfl, hX0.out, hR0.out, hT0.out, hE0.out⟩
  case round =>
    clear hX0 hR0 hT0 hE0
    obtain ⟨k, hk, rfl, rfl, hX, hR, hT, hE⟩ := hrel
    by_cases hlt : k < N
    · have hlt' : (k : Int) < N := by omega
      obtain ⟨i1, i2, i3, i4⟩ := hI.ext hE
      have j1 := i1 k hlt
      have j2 := i2 k hlt
      have j3 := i3 k hlt
      have jl := World.block_lt_of_cell? wr _ j1
      have hpx := Lib.hid (i4 k hlt)
      clear i1 i2 i3 i4
      generalize Ws k = wk at *
      generalize Hs k = hk' at *
      generalize hAk : As k = ak at *
      generalize cs k = ck at *
      obtain ⟨V1, hV1⟩ : ∃ V1, ((wr.alloc (.cells #[.int .i64 wk, .int .i64 hk', .slice ak n ck] 27)).alloc (.cells #[.int .i64 0, .int .i64 0, .int .i64 0, .int .i64 0, .int .i64 0, .int .i64 0, .int .i64 0, .int .i64 0, .int .i64 0, .int .i64 0, .int .i64 0, .int .i64 0, .int .i64 0, .int .i64 0, .int .i64 0, .int .i64 0] 91)).alloc (.cells #[.int .i64 0] 3) = V1 := ⟨_, rfl⟩
      have hEV : Ext wr V1 := by subst hV1; exact (((Ext.refl wr).alloc _).alloc _).alloc _
      have hN1 : Blk V1 (wr.heap.size + 1 + 1) 3 #[.int .i64 0] := by subst hV1; exact Blk.new' (by simp) _ _
      have hB1 : Blk V1 (wr.heap.size + 1) 91 (arr []) := by subst hV1; exact (Blk.new' (by simp) _ _).alloc _
      have hI1 : Blk V1 wr.heap.size 27 #[.int .i64 wk, .int .i64 hk', .slice ak n ck] := by subst hV1; exact ((Blk.new _ _ _).alloc _).alloc _
      have hT1 := hT.ext hEV
      have hX1 := hX.ext hEV
      have hR1 := hR.ext hEV
      obtain ⟨xc, xf, xl⟩ := hX1.rules
      obtain ⟨rc, rf, rl⟩ := hR1.rules
      obtain ⟨nc, nf, nl⟩ := hN1.rules
      have hxw := hX.lt
      have hrw := hR.lt
      have htw := hT.lt
      have hE1 := Lib.hid (hE.trans hEV)
      replace hEV := Lib.hid hEV
      replace hN1 := Lib.hid hN1
      replace hB1 := Lib.hid hB1
      replace hI1 := Lib.hid hI1
      replace hT1 := Lib.hid hT1
      replace hX1 := Lib.hid hX1
      replace hR1 := Lib.hid hR1
      replace hX := Lib.hid hX
      replace hR := Lib.hid hR
      replace hT := Lib.hid hT
      replace hE := Lib.hid hE
      replace hAk := Lib.hid hAk
      go_wp2_with fail
      have hl1 : ∀ p, p ≤ n → (patL U (fs k) p).length ≤ 16 := fun p hp => by
        have h1 := hlen.out (fs k) p
        have h2 : cnt U p ≤ cnt U n := by
          obtain ⟨e, he⟩ : ∃ e, n = p + e := ⟨n - p, by omega⟩
          rw [he, show cnt U (p + e) = cnt U p + cnt (fun j => U (p + j)) e from sumTo_split _ p e]
          have := cnt_nonneg (fun j => U (p + j)) e
          omega
        have := hU.out
        omega
      obtain ⟨V2, hV2⟩ : ∃ V2, V1.setCell ⟨wr.heap.size + 1 + 1, 0, none⟩ (.int .i64 0) = V2 := ⟨_, rfl⟩
      have hJ0 : Blk V2 wr.heap.size 27 #[.int .i64 wk, .int .i64 hk', .slice ak n ck] ∧ Blk V2 (wr.heap.size + 1) 91 (arr (patL U (fs k) 0)) ∧ Blk V2 (wr.heap.size + 1 + 1) 3 #[.int .i64 ((patL U (fs k) 0).length : Int)] ∧
          Blk V2 w.heap.size 27 #[.int .i64 Wn, .int .i64 Hn, .slice A n c] ∧ Blk V2 (w.heap.size + 1) 29 #[.int .i64 a, .int .i64 b, .int .i64 c1, .int .i64 d] ∧ TallyOf Try.prog 91 3 V2 (w.heap.size + 1 + 1) k (gK key k) ∧ Ext w V2 ∧ Ext wr V2 := by
        subst hV2
        have hO := Only.set_ V1 (wr.heap.size + 1 + 1) 0 (.int .i64 0)
        refine ⟨hO.blk hI1.out (by omega), hO.blk hB1.out (by omega), ?_, hO.blk hX1.out (by omega), hO.blk hR1.out (by omega), hT1.out.kept hO ?_, hE1.out.setCell (by simp; omega) _, hEV.out.setCell (by show wr.heap.size ≤ wr.heap.size + 1 + 1; omega) _⟩
        · have := hN1.out.set_ 0 (.int .i64 0)
          simpa [patL] using this
        · intro h
          injection h with h
          omega
      have hs2 : V2.heap.size = V1.heap.size := by subst hV2; simp [World.setCell]
      try rw [hV2]
      clear hV2
      replace hJ0 := Lib.hid hJ0
      refine (pixels_any Wn Hn n c A f a b c1 d 50 #[.pointer (some ⟨wr.heap.size, 0, none⟩), .pointer (some ⟨wr.heap.size + 1, 0, none⟩), .pointer (some ⟨wr.heap.size + 1 + 1, 0, none⟩)] V2
        (fun p V => Blk V wr.heap.size 27 #[.int .i64 wk, .int .i64 hk', .slice ak n ck] ∧ Blk V (wr.heap.size + 1) 91 (arr (patL U (fs k) p)) ∧ Blk V (wr.heap.size + 1 + 1) 3 #[.int .i64 ((patL U (fs k) p).length : Int)] ∧
          Blk V w.heap.size 27 #[.int .i64 Wn, .int .i64 Hn, .slice A n c] ∧ Blk V (w.heap.size + 1) 29 #[.int .i64 a, .int .i64 b, .int .i64 c1, .int .i64 d] ∧ TallyOf Try.prog 91 3 V (w.heap.size + 1 + 1) k (gK key k) ∧ Ext w V ∧ Ext wr V)
        hW hH hn'.out (enters_of Try.func50 (by kernel_rfl) rfl)
        (fun p V V' h hE' => ⟨h.1.ext hE', h.2.1.ext hE', h.2.2.1.ext hE', h.2.2.2.1.ext hE', h.2.2.2.2.1.ext hE', h.2.2.2.2.2.1.ext hE', h.2.2.2.2.2.2.1.trans hE', h.2.2.2.2.2.2.2.trans hE'⟩)
        (fun p V h => hA.ext h.2.2.2.2.2.2.1)
        (fun p V hp hu h => by
          have : patL U (fs k) (p + 1) = patL U (fs k) p := by rw [patL_succ, ← hUe.out, hu]; simp
          rw [this]; exact h)
        (fun p V hp hu h hs => by
          have hps : patL U (fs k) (p + 1) = patL U (fs k) p ++ [fs k p] := by rw [patL_succ, ← hUe.out, hu]; rfl
          have hq : (patL U (fs k) p).length < 16 := by
            have := hl1 (p + 1) hp
            rw [hps, List.length_append, List.length_singleton] at this
            omega
          refine (put1_any p (patL U (fs k) p).length wr.heap.size (wr.heap.size + 1) (wr.heap.size + 1 + 1) n ck wk hk' ak (fs k) (patL U (fs k) p) V h.1 h.2.1 h.2.2.1 (hpx.out.ext h.2.2.2.2.2.2.2) hp (by omega) hq).mono fun e V' hh => ?_
          obtain ⟨hu1, V3, hV3, rfl⟩ := hh
          rw [hps]
          have hO1 := Only.set_ V3 (wr.heap.size + 1) (patL U (fs k) p).length (.int .i64 (fs k p))
          have hO2 := Only.set_ (V3.setCell ⟨wr.heap.size + 1, (patL U (fs k) p).length, none⟩ (.int .i64 (fs k p))) (wr.heap.size + 1 + 1) 0 (.int .i64 (((patL U (fs k) p).length : Int) + 1))
          refine ⟨hu1, ⟨hO2.blk (hO1.blk (h.1.ext hV3) (by omega)) (by omega), hO2.blk ?_ (by omega), ?_, hO2.blk (hO1.blk (h.2.2.2.1.ext hV3) (by omega)) (by omega), hO2.blk (hO1.blk (h.2.2.2.2.1.ext hV3) (by omega)) (by omega),
            ((h.2.2.2.2.2.1.ext hV3).kept hO1 (fun h => by injection h with h; omega)).kept hO2 (fun h => by injection h with h; omega), ((h.2.2.2.2.2.2.1.trans hV3).setCell (by simp; omega) _).setCell (by simp; omega) _, ((h.2.2.2.2.2.2.2.trans hV3).setCell (by simp) _).setCell (by simp; omega) _⟩, ?_, ?_⟩
          · rw [← arr_snoc _ _ hq]; exact (h.2.1.ext hV3).set_ _ _
          · have := (hO1.blk (h.2.2.1.ext hV3) (by omega)).set_ 0 (.int .i64 (((patL U (fs k) p).length : Int) + 1))
            simpa using this
          · have := hV3.size; simpa [World.setCell] using this
          · intro q hq1 hq2
            have hVs := hEV.out.size
            exact ((Below.heap_setCell _ ⟨wr.heap.size + 1 + 1, 0, none⟩ _ q (by simp; omega)).trans (Below.heap_setCell V3 ⟨wr.heap.size + 1, (patL U (fs k) p).length, none⟩ _ q (by simp; omega))).trans (Below.block hV3 q hq2))
        hJ0.out).mono ?_
      rintro e V4 ⟨⟨vv, rfl⟩, hJ4⟩
      obtain ⟨-, hB4, -, hX4, hR4, hT4, hE4, -⟩ := hJ4
      clear xc xf xl rc rf rl nc nf nl hN1 hB1 hI1 hT1 hX1 hR1 hX hR hT hE hJ0 hl1 hV1
      obtain ⟨kl, hkl1⟩ := hkl.out k hlt
      have hgb := gK_bd key k (key k)
      have hT4d := hT4.ext ((Ext.refl V4).drew)
      have o0 := hT4d.look (t := 89) blk_law Try.underlying89 Try.underlying3 (fun u => by kernel_rfl) hkl1
      obtain ⟨v0, st, W3, W4, o1, o2, o3, hT5, hg3, hg4⟩ := hT4d.step (t := 89) blk_law Try.underlying89 Try.underlying3 (fun u => by kernel_rfl) (by simp [maxLen]; omega) hkl1 (lit_wf (by omega) (by omega))
      have o4 := hT5.look (t := 89) blk_law Try.underlying89 Try.underlying3 (fun u => by kernel_rfl) hkl1
      rw [updV_same] at o4
      have hB5 := hB4
      rw [arr_lit] at hB5
      obtain ⟨kv, hkv⟩ : ∃ kv, key k = kv := ⟨_, rfl⟩
      have hkv2 := (hkeyk.out k).symm.trans hkv
      rw [arr_lit] at hkv2
      have hmk : mK key (k + 1) = max (mK key k) (gK key k (key k) + 1) := rfl
      have hgk : gK key (k + 1) = updV (gK key k) (key k) (gK key k (key k) + 1) := rfl
      rw [← hgk] at hT5
      generalize gK key k (key k) = cv at *
      rw [hkv] at o0 o1 o2 o4
      rw [← hkv2] at o0 o1 o2 o4
      clear hkv hkv2 hgk hB4
      generalize (patL U (fs k) n).getD 0 0 = x0 at *
      generalize (patL U (fs k) n).getD 1 0 = x1 at *
      generalize (patL U (fs k) n).getD 2 0 = x2 at *
      generalize (patL U (fs k) n).getD 3 0 = x3 at *
      generalize (patL U (fs k) n).getD 4 0 = x4 at *
      generalize (patL U (fs k) n).getD 5 0 = x5 at *
      generalize (patL U (fs k) n).getD 6 0 = x6 at *
      generalize (patL U (fs k) n).getD 7 0 = x7 at *
      generalize (patL U (fs k) n).getD 8 0 = x8 at *
      generalize (patL U (fs k) n).getD 9 0 = x9 at *
      generalize (patL U (fs k) n).getD 10 0 = x10 at *
      generalize (patL U (fs k) n).getD 11 0 = x11 at *
      generalize (patL U (fs k) n).getD 12 0 = x12 at *
      generalize (patL U (fs k) n).getD 13 0 = x13 at *
      generalize (patL U (fs k) n).getD 14 0 = x14 at *
      generalize (patL U (fs k) n).getD 15 0 = x15 at *
      have hB6 : Blk W4 (wr.heap.size + 1) 91 #[.int .i64 x0, .int .i64 x1, .int .i64 x2, .int .i64 x3, .int .i64 x4, .int .i64 x5, .int .i64 x6, .int .i64 x7, .int .i64 x8, .int .i64 x9, .int .i64 x10, .int .i64 x11, .int .i64 x12, .int .i64 x13, .int .i64 x14, .int .i64 x15] := (hg4.block _ hB5.lt (fun h => by injection h with h; omega)).trans hB5
      have hX6 := Lib.hid ((hg4.block _ hX4.lt (fun h => by injection h with h; omega)).trans hX4)
      have hR6 := Lib.hid ((hg4.block _ hR4.lt (fun h => by injection h with h; omega)).trans hR4)
      have hE6 := Lib.hid (hE4.drew.grown hg4 (fun q h => by injection h with h; omega))
      obtain ⟨bc, bf, bl⟩ := hB5.rules
      simp only [goInt] at o1 o3
      replace hT5 := Lib.hid hT5
      replace hg3 := Lib.hid hg3
      replace hg4 := Lib.hid hg4
      replace hB6 := Lib.hid hB6
      replace hmk := Lib.hid hmk
      have hw1 : IntKind.i64.wrap (cv + 1) = cv + 1 := by rw [IntKind.wrap_i64]; omega
      clear hB5 hX4 hR4 hT4 hT4d hE4 hkl1
      go_wp2_with fail
      go_region
      all_goals
        clear bc bf bl o0 o1 o2 o3
        obtain ⟨bc, bf, bl⟩ := hB6.out.rules
        obtain ⟨mx, hmx, hmx2⟩ : ∃ mx : Int, (if mK key k < cv + 1 then cv + 1 else mK key k) = mx ∧ Hid (mK key (k + 1) = mx) := ⟨_, rfl, Lib.hid (by rw [hmk.out]; split <;> omega)⟩
        go_wp2_with fail
        exact ⟨⟨k + 1, by omega, by go_num, by rw [hmx2.out], hX6.out, hR6.out, hT5.out, hE6.out⟩, by simp only [intOf]; omega⟩
    · obtain rfl : k = N := by omega
      replace hX := Lib.hid hX
      replace hR := Lib.hid hR
      replace hT := Lib.hid hT
      replace hE := Lib.hid hE
      go_wp2_with fail
      go_ret
      exact ⟨rfl, hE.out⟩
end Go.Proofs.Ytcdnpnbjloaihaa
end

section
/- ref33.agree, ref33.most. No condition but those that each states. -/
namespace Go.Proofs.Ytcdnpnbjloaihaa
open Go.RowKit Go.Flow Go.Plain
open Go.Proofs
attribute [local go_sem] block_add
attribute [local go_sem ↓] Go.wp_at_zero Go.wp_at_succ

/-- Two images agree in the pixels that q lists. -/
def agreeB (N : Nat) (q : Nat → Nat) (f g : Nat → Int) : Bool := decide (∀ j, j < N → f (q j) = g (q j))

set_option maxHeartbeats 1000000 in
set_option maxRecDepth 100000 in
theorem agree_any (W H W' H' : Int) (A B P : Option Addr) (n m N c d cP : Nat) (f g : Nat → Int) (q : Nat → Nat) (w : World) (hN : N ≤ 1000000) (hn : n ≤ 1000000) (hm : m ≤ 1000000) (hA : Ints w A n f) (hB : Ints w B m g) (hP : Ints w P N (fun j => (q j : Int))) (hq : ∀ j, j < N → q j < n ∧ q j < m) :
    Calls Try.prog 51 #[img W H A n c, img W' H' B m d, .slice P N cP] w fun e w' => e = .returned (.bool (agreeB N q f g)) ∧ Ext w w' := by
  obtain ⟨v, hv⟩ : ∃ v, agreeB N q f g = v := ⟨_, rfl⟩
  rw [hv]
  replace hv := Lib.hid hv
  have hE0 := Lib.hid (((Ext.refl w).alloc (.cells #[.int .i64 W, .int .i64 H, .slice A n c] 27)).alloc (.cells #[.int .i64 W', .int .i64 H', .slice B m d] 27))
  have hX0 := Lib.hid ((Blk.new w 27 #[.int .i64 W, .int .i64 H, .slice A n c]).alloc (.cells #[.int .i64 W', .int .i64 H', .slice B m d] 27))
  have hY0 := Lib.hid (Blk.new' (g := w.heap.size + 1) (w := w.alloc (.cells #[.int .i64 W, .int .i64 H, .slice A n c] 27)) (by simp) 27 #[.int .i64 W', .int .i64 H', .slice B m d])
  replace hq := Lib.hid hq
  go_enter Try.func51, Try.ntmps51
  go_wp2_with fail
  go_loopw [7] (fun i wr => ∃ k : Nat, k ≤ N ∧ i = .int .i64 k ∧ Hid (∀ j, j < k → f (q j) = g (q j)) ∧ Blk wr w.heap.size 27 #[.int .i64 W, .int .i64 H, .slice A n c] ∧ Blk wr (w.heap.size + 1) 27 #[.int .i64 W', .int .i64 H', .slice B m d] ∧ Ext w wr) (fun i _ => N - (intOf i).toNat)
  case atStart => exact ⟨0, by omega, rfl, Lib.hid fun j hj => absurd hj (by omega), hX0.out, hY0.out, hE0.out⟩
  case round =>
    clear hX0 hY0 hE0
    obtain ⟨k, hk, rfl, heq, hX, hY, hE⟩ := hrel
    obtain ⟨xc, xf, xl⟩ := hX.rules
    obtain ⟨yc, yf, yl⟩ := hY.rules
    by_cases hlt : k < N
    · have hlt' : (k : Int) < N := by omega
      obtain ⟨p, hp⟩ : ∃ p, q k = p := ⟨_, rfl⟩
      obtain ⟨hpn, hpm⟩ := hq.out k hlt
      rw [hp] at hpn hpm
      have hpn' : (p : Int) < n := by omega
      have hpm' : (p : Int) < m := by omega
      obtain ⟨pd, rfl, hpc⟩ := hP.ext hE k hlt
      obtain ⟨ad, rfl, hc⟩ := hA.ext hE p hpn
      obtain ⟨bd, rfl, hd⟩ := hB.ext hE p hpm
      simp only [hp] at hpc
      have hpl := lt_of_cell hpc
      have hal := lt_of_cell hc
      have hbl := lt_of_cell hd
      replace hX := Lib.hid hX
      replace hY := Lib.hid hY
      replace hE := Lib.hid hE
      replace hp := Lib.hid hp
      by_cases h : f p = g p
      · have hb : (f p != g p) = false := by simp [h]
        replace h := Lib.hid h
        go_wp2_with fail
        refine Flow.wp_flow 17 [(0, true), (1, true), (2, true), (3, true), (4, true), (5, true), (6, true), (7, true), (8, true), (9, true), (10, true), (11, true), (12, true), (13, true), (14, true), (15, true), (16, true)] (by kernel_rfl) (by kernel_rfl) ?_
        simp only [List.map_cons, List.map_nil, List.getD_cons_succ, List.getD_cons_zero]
        repeat (first
          | (refine Flow.WalkL.move rfl ?_
             simp only [Act.put, Act.eval, Array.getD_eq_getD_getElem?, List.getElem?_toArray, List.getElem?_cons_succ, List.getElem?_cons_zero, Option.getD_some, List.setIfInBounds_toArray, List.set_cons_zero, List.set_cons_succ])
          | (refine Flow.WalkL.assign rfl ?_
             simp only [Act.put, Act.eval, Array.getD_eq_getD_getElem?, List.getElem?_toArray, List.getElem?_cons_succ, List.getElem?_cons_zero, Option.getD_some, List.setIfInBounds_toArray, List.set_cons_zero, List.set_cons_succ])
          | (refine Flow.WalkL.run (v := ?_) rfl (fun w1 hC => ?_) ?_
             rotate_left
             · obtain ⟨hCc, hCf⟩ := hC.rules
               go_simp
               with_reducible rfl
             simp only [Act.put, List.setIfInBounds_toArray, List.set_cons_zero, List.set_cons_succ]))
        refine Flow.WalkL.nil ?_
        simp only [List.drop]
        intro w1 hC
        have hX1 := Lib.hid (hX.out.ext hC)
        have hY1 := Lib.hid (hY.out.ext hC)
        replace hC := Lib.hid hC
        clear xc xf xl yc yf yl
        go_wp2_with fail
        exact ⟨⟨k + 1, by omega, by go_num, Lib.hid fun j hj => by
          rcases Nat.lt_or_ge j k with hh | hh
          · exact heq.out j hh
          · rw [show j = k by omega, hp.out]; exact h.out, hX1.out, hY1.out, hE.out.trans hC.out⟩, by simp only [intOf]; omega⟩
      · have hb : (f p != g p) = true := by simp [h]
        obtain rfl : v = false := by rw [← hv.out]; exact decide_eq_false fun hh => h (by have := hh k hlt; rwa [hp.out] at this)
        go_wp2_with fail
        refine Flow.wp_flow 17 [(0, true), (1, true), (2, true), (3, true), (4, true), (5, true), (6, true), (7, true), (8, true), (9, true), (10, true), (11, true), (12, true), (13, true), (14, true), (15, true), (16, true)] (by kernel_rfl) (by kernel_rfl) ?_
        simp only [List.map_cons, List.map_nil, List.getD_cons_succ, List.getD_cons_zero]
        repeat (first
          | (refine Flow.WalkL.move rfl ?_
             simp only [Act.put, Act.eval, Array.getD_eq_getD_getElem?, List.getElem?_toArray, List.getElem?_cons_succ, List.getElem?_cons_zero, Option.getD_some, List.setIfInBounds_toArray, List.set_cons_zero, List.set_cons_succ])
          | (refine Flow.WalkL.assign rfl ?_
             simp only [Act.put, Act.eval, Array.getD_eq_getD_getElem?, List.getElem?_toArray, List.getElem?_cons_succ, List.getElem?_cons_zero, Option.getD_some, List.setIfInBounds_toArray, List.set_cons_zero, List.set_cons_succ])
          | (refine Flow.WalkL.run (v := ?_) rfl (fun w1 hC => ?_) ?_
             rotate_left
             · obtain ⟨hCc, hCf⟩ := hC.rules
               go_simp
               with_reducible rfl
             simp only [Act.put, List.setIfInBounds_toArray, List.set_cons_zero, List.set_cons_succ]))
        refine Flow.WalkL.nil ?_
        simp only [List.drop]
        intro w1 hC
        replace hC := Lib.hid hC
        clear xc xf xl yc yf yl
        go_wp2_with fail
        go_ret
        exact ⟨rfl, hE.out.trans hC.out⟩
    · obtain rfl : k = N := by omega
      obtain rfl : v = true := by rw [← hv.out]; exact decide_eq_true heq.out
      replace hX := Lib.hid hX
      replace hY := Lib.hid hY
      replace hE := Lib.hid hE
      have hlt' : ¬ ((k : Int) < k) := by omega
      go_wp2_with fail
      go_ret
      exact ⟨rfl, hE.out⟩

/-- How many of the first k images agree with image i. -/
def sameN (N : Nat) (q : Nat → Nat) (fs : Nat → Nat → Int) (i : Nat) : Nat → Nat
  | 0 => 0
  | k + 1 => sameN N q fs i k + (if agreeB N q (fs i) (fs k) then 1 else 0)
def mostN (N : Nat) (q : Nat → Nat) (fs : Nat → Nat → Int) (M : Nat) : Nat → Nat
  | 0 => 0
  | i + 1 => max (mostN N q fs M i) (sameN N q fs i M)
theorem sameN_le (N : Nat) (q : Nat → Nat) (fs : Nat → Nat → Int) (i : Nat) : ∀ k, sameN N q fs i k ≤ k
  | 0 => Nat.le_refl _
  | k + 1 => by have := sameN_le N q fs i k; unfold sameN; split <;> omega
theorem mostN_le (N : Nat) (q : Nat → Nat) (fs : Nat → Nat → Int) (M : Nat) : ∀ i, mostN N q fs M i ≤ M
  | 0 => Nat.zero_le _
  | i + 1 => by have := mostN_le N q fs M i; have := sameN_le N q fs i M; unfold mostN; omega

set_option maxHeartbeats 1000000 in
set_option maxRecDepth 100000 in
theorem most_any (gs M cM n N cP : Nat) (P : Option Addr) (Ws Hs : Nat → Int) (As : Nat → Option Addr) (cs : Nat → Nat) (fs : Nat → Nat → Int) (q : Nat → Nat) (w : World)
    (hM : M ≤ 100000) (hN : N ≤ 1000000) (hn : n ≤ 1000000) (hI : Imgs w gs M Ws Hs As (fun _ => n) cs fs) (hP : Ints w P N (fun j => (q j : Int))) (hq : ∀ j, j < N → q j < n) :
    Calls Try.prog 39 #[.slice (some ⟨gs, 0, none⟩) M cM, .slice P N cP] w fun e w' => e = .returned (.int .i64 (mostN N q fs M M)) ∧ Ext w w' := by
  replace hq := Lib.hid hq
  obtain ⟨v, hv⟩ : ∃ v, mostN N q fs M M = v := ⟨_, rfl⟩
  rw [hv]
  replace hv := Lib.hid hv
  go_enter Try.func39, Try.ntmps39
  go_wp2_with fail
  go_loopw [5, 6] (fun b i wr => ∃ k : Nat, k ≤ M ∧ i = .int .i64 k ∧ b = .int .i64 (mostN N q fs M k : Nat) ∧ Ext w wr) (fun _ i _ => M - (intOf i).toNat)
  case atStart => exact ⟨0, by omega, rfl, rfl, Ext.refl w⟩
  case round =>
    obtain ⟨i, hi, rfl, rfl, hE⟩ := hrel
    have hbi := mostN_le N q fs M i
    by_cases hlt : i < M
    · have hlt' : (i : Int) < M := by omega
      replace hE := Lib.hid hE
      go_wp2_with fail
      obtain ⟨w9, rfl⟩ : ∃ w9 : World, w9 = wr := ⟨_, rfl⟩
      go_loopw [7, 8] (fun b j wr => ∃ k : Nat, k ≤ M ∧ j = .int .i64 k ∧ b = .int .i64 (sameN N q fs i k : Nat) ∧ Ext w wr) (fun _ j _ => M - (intOf j).toNat)
      case atStart => exact ⟨0, by omega, rfl, rfl, hE.out⟩
      case round =>
        clear hE
        obtain ⟨k, hk, rfl, rfl, hE⟩ := hrel
        have hbk := sameN_le N q fs i k
        by_cases hkt : k < M
        · have hkt' : (k : Int) < M := by omega
          have hI1 := hI.ext hE
          have a1 := hI1.w_ i hlt
          have a2 := hI1.h_ i hlt
          have a3 := hI1.p_ i hlt
          have b1 := hI1.w_ k hkt
          have b2 := hI1.h_ k hkt
          have b3 := hI1.p_ k hkt
          have hgl := World.block_lt_of_cell? _ _ a1
          have hS : sameN N q fs i (k + 1) = sameN N q fs i k + (if agreeB N q (fs i) (fs k) then 1 else 0) := rfl
          obtain ⟨bv, hbv⟩ : ∃ bv, agreeB N q (fs i) (fs k) = bv := ⟨_, rfl⟩
          rw [hbv] at hS
          replace hbv := Lib.hid hbv
          replace hE := Lib.hid hE
          replace hS := Lib.hid hS
          go_wp2_with fail
          refine Flow.wp_flow 10 [(0, true), (1, true), (2, true), (3, true), (4, true), (5, true), (6, true), (7, true), (8, true), (9, true)] (by kernel_rfl) (by kernel_rfl) ?_
          simp only [List.map_cons, List.map_nil, List.getD_cons_succ, List.getD_cons_zero]
          repeat (first
            | (refine Flow.WalkL.move rfl ?_
               simp only [Act.put, Act.eval, Array.getD_eq_getD_getElem?, List.getElem?_toArray, List.getElem?_cons_succ, List.getElem?_cons_zero, Option.getD_some, List.setIfInBounds_toArray, List.set_cons_zero, List.set_cons_succ])
            | (refine Flow.WalkL.assign rfl ?_
               simp only [Act.put, Act.eval, Array.getD_eq_getD_getElem?, List.getElem?_toArray, List.getElem?_cons_succ, List.getElem?_cons_zero, Option.getD_some, List.setIfInBounds_toArray, List.set_cons_zero, List.set_cons_succ])
            | (refine Flow.WalkL.callf Try.func51 rfl (by kernel_rfl) rfl (fun w1 hC => ((agree_any (Ws i) (Hs i) (Ws k) (Hs k) (As i) (As k) P n n N (cs i) (cs k) cP (fs i) (fs k) q w1 hN hn hn ((hI1.px i hlt).ext hC) ((hI1.px k hkt).ext hC) (hP.ext (hE.out.trans hC)) (fun j hj => ⟨hq.out j hj, hq.out j hj⟩)).mono fun e w' h => ⟨by rw [h.1, hbv.out], h.2⟩)) rfl rfl ?_
               simp only [Act.put, List.setIfInBounds_toArray, List.set_cons_zero, List.set_cons_succ])
            | (refine Flow.WalkL.run (v := ?_) rfl (fun w1 hC => ?_) ?_
               rotate_left
               · obtain ⟨hCc, hCf⟩ := hC.rules
                 go_simp
                 with_reducible rfl
               simp only [Act.put, List.setIfInBounds_toArray, List.set_cons_zero, List.set_cons_succ]))
          refine Flow.WalkL.nil ?_
          simp only [List.drop]
          intro w2 hC
          replace hC := Lib.hid (hE.out.trans hC)
          clear a1 a2 a3 b1 b2 b3
          cases bv
          · go_wp2_with fail
            exact ⟨⟨k + 1, by omega, by go_num, by rw [hS.out]; rfl, hC.out⟩, by simp only [intOf]; omega⟩
          · go_wp2_with fail
            exact ⟨⟨k + 1, by omega, by go_num, by rw [hS.out]; rfl, hC.out⟩, by simp only [intOf]; omega⟩
        · obtain rfl : k = M := by omega
          have hS : mostN N q fs k (i + 1) = max (mostN N q fs k i) (sameN N q fs i k) := rfl
          obtain ⟨x, hx⟩ : ∃ x : Int, (if mostN N q fs k i < sameN N q fs i k then ((sameN N q fs i k : Nat) : Int) else ((mostN N q fs k i : Nat) : Int)) = x := ⟨_, rfl⟩
          have hx2 : x = ((mostN N q fs k (i + 1) : Nat) : Int) := by rw [hS, ← hx]; split <;> omega
          replace hx2 := Lib.hid hx2
          replace hE := Lib.hid hE
          clear hS
          go_wp2_with fail
          exact ⟨⟨i + 1, by omega, by go_num, by rw [hx2.out], hE.out⟩, by simp only [intOf]; omega⟩
    · obtain rfl : i = M := by omega
      replace hE := Lib.hid hE
      have hlt' : ¬ ((i : Int) < i) := by omega
      go_wp2_with fail
      go_ret
      exact ⟨by rw [← hv.out]; rfl, hE.out⟩
end Go.Proofs.Ytcdnpnbjloaihaa
end

section
/- The greatest group, both ways (plain). Condition: a block has at most 16 pixels. -/
namespace Go.Proofs.Ytcdnpnbjloaihaa
open Go.RowKit Go.Flow Go.Plain
open Go.Proofs
open Classical in

theorem gK_succ (key : Nat → Value) (k : Nat) (v : Value) : gK key (k + 1) v = if v = key k then gK key k (key k) + 1 else gK key k v := by
  show updV (gK key k) (key k) (gK key k (key k) + 1) v = _
  by_cases e : v = key k
  · subst e; rw [updV_same, if_pos rfl]
  · rw [updV_other e, if_neg e]
theorem gK_mono (key : Nat → Value) (k : Nat) (v : Value) : gK key k v ≤ gK key (k + 1) v := by
  rw [gK_succ]
  by_cases e : v = key k
  · subst e; rw [if_pos rfl]; omega
  · rw [if_neg e]; omega
theorem gK_le (key : Nat → Value) (v : Value) {k m : Nat} (h : k ≤ m) : gK key k v ≤ gK key m v := by
  induction m with
  | zero => obtain rfl : k = 0 := by omega
            exact Int.le_refl _
  | succ m ih =>
    rcases Nat.lt_or_ge m k with h1 | h1
    · obtain rfl : k = m + 1 := by omega
      exact Int.le_refl _
    · exact Int.le_trans (ih h1) (gK_mono key m v)
theorem gK_mK (key : Nat → Value) : ∀ m v, gK key m v ≤ mK key m
  | 0, _ => Int.le_refl _
  | m + 1, v => by
    have h := gK_mK key m v
    rw [gK_succ]
    show _ ≤ max (mK key m) (gK key m (key m) + 1)
    split <;> omega
theorem mK_le (key : Nat → Value) (B : Int) (h0 : 0 ≤ B) : ∀ m, (∀ k, k < m → gK key m (key k) ≤ B) → mK key m ≤ B
  | 0, _ => h0
  | m + 1, h => by
    have h1 := mK_le key B h0 m (fun k hk => Int.le_trans (gK_mono key m (key k)) (h k (by omega)))
    have h2 := h m (by omega)
    rw [gK_succ, if_pos rfl] at h2
    show max (mK key m) (gK key m (key m) + 1) ≤ B
    omega
theorem same_gK (key : Nat → Value) (N : Nat) (q : Nat → Nat) (fs : Nat → Nat → Int) (i : Nat) : ∀ M, (∀ k, k < M → (agreeB N q (fs i) (fs k) = true ↔ key i = key k)) → ((sameN N q fs i M : Nat) : Int) = gK key M (key i)
  | 0, _ => rfl
  | M + 1, h => by
    have ih := same_gK key N q fs i M (fun k hk => h k (by omega))
    have hM := h M (by omega)
    rw [gK_succ]
    show ((sameN N q fs i M + (if agreeB N q (fs i) (fs M) then 1 else 0) : Nat) : Int) = _
    by_cases e : key i = key M
    · rw [if_pos e, ← e, if_pos (hM.2 e), ← ih]; omega
    · rw [if_neg e, if_neg (fun hh => e (hM.1 hh)), ← ih]; omega
theorem most_ge (N : Nat) (q : Nat → Nat) (fs : Nat → Nat → Int) (M : Nat) : ∀ m i, i < m → sameN N q fs i M ≤ mostN N q fs M m
  | 0, _, h => absurd h (by omega)
  | m + 1, i, h => by
    show _ ≤ max (mostN N q fs M m) (sameN N q fs m M)
    rcases Nat.lt_or_ge i m with h1 | h1
    · have := most_ge N q fs M m i h1; omega
    · obtain rfl : i = m := by omega
      omega
theorem most_le (N : Nat) (q : Nat → Nat) (fs : Nat → Nat → Int) (M : Nat) (B : Int) (h0 : 0 ≤ B) : ∀ m, (∀ i, i < m → ((sameN N q fs i M : Nat) : Int) ≤ B) → ((mostN N q fs M m : Nat) : Int) ≤ B
  | 0, _ => h0
  | m + 1, h => by
    have h1 := most_le N q fs M B h0 m (fun i hi => h i (by omega))
    have h2 := h m (by omega)
    show ((max (mostN N q fs M m) (sameN N q fs m M) : Nat) : Int) ≤ B
    omega
theorem most_mK (key : Nat → Value) (N : Nat) (q : Nat → Nat) (fs : Nat → Nat → Int) (M : Nat) (h : ∀ i k, i < M → k < M → (agreeB N q (fs i) (fs k) = true ↔ key i = key k)) : ((mostN N q fs M M : Nat) : Int) = mK key M := by
  have hs : ∀ i, i < M → ((sameN N q fs i M : Nat) : Int) = gK key M (key i) := fun i hi => same_gK key N q fs i M (fun k hk => h i k hi hk)
  have hm0 : 0 ≤ mK key M := by
    have h1 := gK_mK key M (.bool true)
    have h2 := (gK_bd key M (.bool true)).1
    omega
  refine Int.le_antisymm (most_le N q fs M _ hm0 M fun i hi => by rw [hs i hi]; exact gK_mK key M _) (mK_le key _ (by omega) M fun k hk => ?_)
  rw [← hs k hk]
  have := most_ge N q fs M M k hk
  omega
theorem pat_uL (U : Nat → Bool) (s : Nat → Int) (n : Nat) : patL U s n = (uL U n).map s := rfl
theorem arr_inj {l l' : List Int} (h : l.length = l'.length) (hl : l.length ≤ 16) (he : arr l = arr l') : l = l' := by
  apply List.ext_getElem? 
  intro j
  rcases Nat.lt_or_ge j l.length with hj | hj
  · have h1 := arr_get l (j := j) (by omega)
    have h2 := arr_get l' (j := j) (by omega)
    rw [he, h2] at h1
    have h3 : l'.getD j 0 = l.getD j 0 := by simpa using h1
    have hj' : j < l'.length := by omega
    rw [List.getElem?_eq_getElem hj, List.getElem?_eq_getElem hj']
    simp only [List.getD, List.getElem?_eq_getElem hj, List.getElem?_eq_getElem hj', Option.getD_some] at h3
    rw [h3]
  · rw [List.getElem?_eq_none hj, List.getElem?_eq_none (by omega)]
theorem agree_key (U : Nat → Bool) (n : Nat) (f g : Nat → Int) (hl : (uL U n).length ≤ 16) : agreeB (uL U n).length (fun j => (uL U n).getD j 0) f g = true ↔ (Value.agg (arr (patL U f n)) = Value.agg (arr (patL U g n))) := by
  unfold agreeB
  rw [decide_eq_true_iff]
  constructor
  · intro h
    have : patL U f n = patL U g n := by
      rw [pat_uL, pat_uL]
      refine List.map_congr_left fun p hp => ?_
      obtain ⟨j, hj, rfl⟩ := List.getElem_of_mem hp
      have := h j hj
      simpa [List.getD, List.getElem?_eq_getElem hj] using this
    rw [this]
  · intro h j hj
    have h1 : arr (patL U f n) = arr (patL U g n) := by injection h
    have h2 := arr_inj (by rw [pat_uL, pat_uL, List.length_map, List.length_map]) (by rw [pat_uL, List.length_map]; exact hl) h1
    rw [pat_uL, pat_uL] at h2
    have h3 := congrArg (fun l => l[j]?) h2
    simpa [List.getD, List.getElem?_eq_getElem hj] using h3
end Go.Proofs.Ytcdnpnbjloaihaa
end
