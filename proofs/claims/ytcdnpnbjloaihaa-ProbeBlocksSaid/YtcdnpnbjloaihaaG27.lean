/- Parts of the proof: A33c. -/
import Derived.Test.YtcdnpnbjloaihaaG24
import Derived.Test.YtcdnpnbjloaihaaG26
set_option linter.unusedSimpArgs false
set_option linter.unusedVariables false
section
/- Chapter 33 over plain values: Next, both. -/
namespace Go.Proofs.Ytcdnpnbjloaihaa
open Go.RowKit Go.Flow Go.AV Go.Plain
theorem nst_congr (T T' : Rc → Int) (l : List Rc) (h : ∀ r ∈ l, T r = T' r) : nst T l = nst T' l := by
  unfold nst
  generalize (((0, 0, 0, 0), 0, false) : Rc × Int × Bool) = s
  induction l generalizing s with
  | nil => rfl
  | cons r l ih =>
    rw [List.foldl_cons, List.foldl_cons, show nstep T s r = nstep T' s r by unfold nstep; rw [h r (by simp)]]
    exact ih (fun r' hr => h r' (by simp [hr])) _
/-- The greatest number of images that agree in a block's unknown pixels, as the reference counts. -/
def mstT (W : Int) (n : Nat) (f : Nat → Int) (N : Nat) (fs : Nat → Nat → Int) (r : Rc) : Int := (mostN (uL (unkR W f r) n).length (fun j => (uL (unkR W f r) n).getD j 0) fs N N : Nat)
theorem tog_most {Wn Hn n : Nat} (hn : n = Wn * Hn) (f : Nat → Int) (N : Nat) (fs : Nat → Nat → Int) (r : Rc) (hr : r ∈ blocks Wn Hn n f) : mstT Wn n f N fs r = togT Wn n f N fs r := by
  obtain ⟨q, -, rfl, -⟩ := bls_mem hr
  have h16 := cap16 hn f q
  rw [← uL_len] at h16
  exact most_mK (fun k => .agg (arr (patL (unkR Wn f (rq Wn Hn q)) (fs k) n))) _ _ fs N fun i k _ _ => agree_key _ n (fs i) (fs k) (by omega)
noncomputable def nextL (W H : Int) (n : Nat) (f : Nat → Int) (L : List Bm) (Y : List Mt) : Rc × Int × Bool :=
  if chkI W H n f = 0 ∧ L.length = Y.length then nextV W.toNat H.toNat n f L.length (fun k => goodB W.toNat H.toNat (L.getD k bmZ).W (L.getD k bmZ).H (L.getD k bmZ).n (Y.getD k mtZ).dx (Y.getD k mtZ).dy) (fun k => putF (L.getD k bmZ).W (L.getD k bmZ).H (L.getD k bmZ).d (Y.getD k mtZ).dx (Y.getD k mtZ).dy)
  else ((0, 0, 0, 0), 0, false)
abbrev nxV (V : Rc × Int × Bool) : AV := .tu [.ag (rcC V.1), .c (iC V.2.1), .c (bC V.2.2)]
theorem rep_bms {O : Nat → Prop} {w : World} {u : Value} {L : List Bm} {N : Nat} (h : RepC (fun _ => none) O w (.ls N 3 (rowF bmC bmZ L)) u) : ∃ (A : Option Addr) (c : Nat) (D : Nat → Option Addr) (kl : Nat → Nat), u = .slice A N c ∧ Bms w A N (fun k => (L.getD k bmZ).W) (fun k => (L.getD k bmZ).H) D (fun k => (L.getD k bmZ).n) kl (fun k => (L.getD k bmZ).d) := by
  obtain ⟨-, A, c, rfl, hc, hx⟩ := h
  have key : ∀ k, k < N → ∃ (g o : Nat) (D : Option Addr) (kl : Nat), A = some ⟨g, o, none⟩ ∧ w.cell? ⟨g, o + k * 3, none⟩ = some (.int .i64 (L.getD k bmZ).W) ∧ w.cell? ⟨g, o + k * 3 + 1, none⟩ = some (.int .i64 (L.getD k bmZ).H) ∧ w.cell? ⟨g, o + k * 3 + 2, none⟩ = some (.slice D (L.getD k bmZ).n kl) ∧ Bools w D (L.getD k bmZ).n (L.getD k bmZ).d := fun k hk => by
    obtain ⟨ad, v0, e0, -, f0, -, g0⟩ := hx k hk 0 (by omega)
    obtain ⟨ad1, v1, e1, -, f1, -, g1⟩ := hx k hk 1 (by omega)
    obtain ⟨ad2, v2, e2, -, f2, h2, g2⟩ := hx k hk 2 (by omega)
    rw [e0] at e1 e2
    cases e1
    cases e2
    obtain ⟨g, o, s⟩ := ad
    obtain ⟨ad', v', e', -, f', -, -⟩ := hx 0 (by omega) 0 (by omega)
    rw [e0] at e'
    cases e'
    have hs : s = none := by
      rw [show (Addr.add ⟨g, o, s⟩ (0 * 3 + 0)) = ⟨g, o, s⟩ by simp [Addr.add]] at f'
      unfold World.cell? at f'
      cases s with
      | none => rfl
      | some x => split at f' <;> simp at f'
    subst hs
    rw [add_off] at f0 f1 f2
    obtain rfl : v0 = .int .i64 (L.getD k bmZ).W := g0
    obtain rfl : v1 = .int .i64 (L.getD k bmZ).H := g1
    obtain ⟨D, kl, rfl, -, hD⟩ := rep_bools (σ := fun _ => none) (O := O) (w := w) (n := (L.getD k bmZ).n) (f := (L.getD k bmZ).d) ⟨h2, g2⟩
    exact ⟨g, o, D, kl, e0, f0, f1, f2, hD⟩
  have key' : ∀ k, ∃ (D : Option Addr) (kl : Nat), k < N → ∃ (g o : Nat), A = some ⟨g, o, none⟩ ∧ w.cell? ⟨g, o + k * 3, none⟩ = some (.int .i64 (L.getD k bmZ).W) ∧ w.cell? ⟨g, o + k * 3 + 1, none⟩ = some (.int .i64 (L.getD k bmZ).H) ∧ w.cell? ⟨g, o + k * 3 + 2, none⟩ = some (.slice D (L.getD k bmZ).n kl) ∧ Bools w D (L.getD k bmZ).n (L.getD k bmZ).d := fun k => by
    by_cases hk : k < N
    · obtain ⟨g, o, D, kl, h⟩ := key k hk
      exact ⟨D, kl, fun _ => ⟨g, o, h⟩⟩
    · exact ⟨none, 0, fun h => absurd h hk⟩
  refine ⟨A, c, fun k => (key' k).choose, fun k => (key' k).choose_spec.choose, rfl, fun k hk => (key' k).choose_spec.choose_spec hk⟩
theorem rep_mts {O : Nat → Prop} {w : World} {u : Value} {Y : List Mt} {N : Nat} (h : RepC (fun _ => none) O w (.ls N 4 (rowF mtC mtZ Y)) u) : ∃ (A : Option Addr) (c : Nat), u = .slice A N c ∧ Mts w A N (fun k => (Y.getD k mtZ).dx) (fun k => (Y.getD k mtZ).dy) (fun k => (Y.getD k mtZ).lo) (fun k => (Y.getD k mtZ).bl) := by
  obtain ⟨-, A, c, rfl, hc, hx⟩ := h
  refine ⟨A, c, rfl, fun k hk => ?_⟩
  obtain ⟨ad, v0, e0, -, f0, -, g0⟩ := hx k hk 0 (by omega)
  obtain ⟨ad1, v1, e1, -, f1, -, g1⟩ := hx k hk 1 (by omega)
  obtain ⟨ad2, v2, e2, -, f2, -, g2⟩ := hx k hk 2 (by omega)
  obtain ⟨ad3, v3, e3, -, f3, -, g3⟩ := hx k hk 3 (by omega)
  rw [e0] at e1 e2 e3
  cases e1
  cases e2
  cases e3
  obtain ⟨g, o, s⟩ := ad
  obtain ⟨ad', v', e', -, f', -, -⟩ := hx 0 (by omega) 0 (by omega)
  rw [e0] at e'
  cases e'
  have hs : s = none := by
    rw [show (Addr.add ⟨g, o, s⟩ (0 * 4 + 0)) = ⟨g, o, s⟩ by simp [Addr.add]] at f'
    unfold World.cell? at f'
    cases s with
    | none => rfl
    | some x => split at f' <;> simp at f'
  subst hs
  rw [add_off] at f0 f1 f2 f3
  obtain rfl : v0 = .int .i64 (Y.getD k mtZ).dx := g0
  obtain rfl : v1 = .int .i64 (Y.getD k mtZ).dy := g1
  obtain rfl : v2 = .int .i64 (Y.getD k mtZ).lo := g2
  obtain rfl : v3 = .int .i64 (Y.getD k mtZ).bl := g3
  exact ⟨g, o, e0, f0, f1, f2, f3⟩
theorem nx_rep {O : Nat → Prop} {w w' : World} {V : Rc × Int × Bool} {e : Ending} (h : e = nret V.1 V.2.1 V.2.2 ∧ Ext w w') : ∃ v, e = .returned v ∧ RepA (fun _ => none) O w' (nxV V) v ∧ Ext w w' :=
  ⟨_, h.1, ⟨[_, _, _], rfl, rct_rep, ⟨rfl, rfl⟩, ⟨rfl, rfl⟩, trivial⟩, h.2⟩
theorem pNext_A (W H : Int) (n : Nat) (f : Nat → Int) (L : List Bm) (Y : List Mt) (hn : n ≤ 4611686018427387904) (hL : L.length ≤ 100) : ACalls Try.prog 19 [.ag (imgV W H n f), .c (.ls L.length 3 (rowF bmC bmZ L)), .c (.ls Y.length 4 (rowF mtC mtZ Y))] (nxV (nextL W H n f L Y)) :=
  ACalls.of fun O w vals hO h => by
    obtain ⟨x, y, z, rfl, h1, h2, h3⟩ := args3 h
    obtain ⟨A, c, rfl, -, hA⟩ := rep_img h1
    obtain ⟨Al, cl, D, kl, rfl, hB⟩ := rep_bms h2
    obtain ⟨Ay, cy, rfl, hM⟩ := rep_mts h3
    unfold nextL
    by_cases hl : L.length = Y.length
    · by_cases hok : chkI W H n f = 0
      · obtain ⟨Wn, Hn, rfl, rfl⟩ := chkI_nat hok
        rw [if_pos ⟨hok, hl⟩]
        rw [← hl] at hM ⊢
        exact (Next_main Wn Hn A n c f Al L.length cl _ _ D _ kl _ Ay cy _ _ _ _ w hA hok hL hB hM _ rfl).mono fun e w' h => nx_rep h
      · rw [if_neg fun h => hok h.1, ← hl]
        exact (Next_bad2 W H A n c f Al L.length cl Ay cy w hn hA hok).mono fun e w' h => nx_rep (V := ((0, 0, 0, 0), 0, false)) h
    · rw [if_neg fun h => hl h.2]
      exact (Next_bad1 W H A n c Al L.length cl Ay Y.length cy w hl).mono fun e w' h => nx_rep (V := ((0, 0, 0, 0), 0, false)) h
end Go.Proofs.Ytcdnpnbjloaihaa
end
