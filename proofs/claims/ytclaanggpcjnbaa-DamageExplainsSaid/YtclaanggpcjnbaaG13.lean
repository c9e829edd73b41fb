/- Parts of the proof: AOld, A01. -/
import Derived.Test.YtclaanggpcjnbaaG11
import Derived.Test.YtclaanggpcjnbaaG12
set_option linter.unusedSimpArgs false
set_option linter.unusedVariables false
section
/- Contracts in terms of worlds as contracts over plain values. No condition. -/
namespace Go.AV
open Go Go.RowKit Go.Flow
abbrev iC (i : Int) : CV := .p (.int .i64 i)
abbrev bC (b : Bool) : CV := .p (.bool b)
abbrev iF (f : Nat → Int) (k _ : Nat) : CV := .p (.int .i64 (f k))
abbrev bF (f : Nat → Bool) (k _ : Nat) : CV := .p (.bool (f k))
abbrev natF (l : List Nat) : Nat → Int := fun j => (l.getD j 0 : Nat)
section
variable {P : Program}
theorem ACalls.of {f : FuncId} {args : List V1} {r : AV} (h : ∀ (O : Nat → Prop) (w : World) (vals : List Value), (∀ b, O b → b < w.heap.size) → RepL (RepV (fun _ => none) O w) args vals →
    Calls P f vals.toArray w fun e w' => ∃ v, e = .returned v ∧ RepA (fun _ => none) O w' r v ∧ Ext w w') : ACalls P f args r := fun b0 vals hH hle hY hv => by
  have hfix : b0.fix = fun _ => none := by
    funext i
    cases hf : b0.fix i with
    | none => rfl
    | some v =>
      have h1 := hle i v hf
      have h2 := (b0.one i v hf).1
      simp at h1
      omega
  rw [hfix] at hH hv hY
  have hlt : ∀ b, out b0 (fun _ => none) (assoc []) b → b < b0.w.heap.size := fun b hb => hb.elim (fun ⟨i, v, h1, _⟩ => absurd rfl h1) (b0.lt b)
  refine (h _ _ vals hlt hv).mono fun e w' ⟨v, h1, h2, h3⟩ => ⟨v, h1, by rw [hfix]; exact h2, ?_, Keep.of_ext h3⟩
  rw [hfix]
  exact ⟨fun i B hB => (by cases hB), fun i j v1 v2 b hi => absurd rfl hi, fun b ⟨i, v, h1, _⟩ => absurd rfl h1, fun i v hi => (by rw [hfix] at hi; cases hi), fun _ _ _ => rfl⟩
/-- A contract at a plain value. -/
theorem ACalls.old {f : FuncId} {args : List V1} {v : Value} (hv : v.oneCell' = true) (h : ∀ (O : Nat → Prop) (w : World) (vals : List Value), RepL (RepV (fun _ => none) O w) args vals → Calls P f vals.toArray w fun e w' => e = .returned v ∧ Ext w w') : ACalls P f args (.c (.p v)) :=
  ACalls.of fun O w vals _ hr => (h O w vals hr).mono fun e w' ⟨h1, h2⟩ => ⟨v, h1, rep_p hv, h2⟩
variable {σ : Nat → Option Value} {O : Nat → Prop} {w : World} {u : Value} {n : Nat}
theorem rep_arr {F : Nat → Nat → CV} {G : Nat → Value} (hF : ∀ k, F k 0 = .p (G k)) (h : RepC σ O w (.ls n 1 F) u) : ∃ A c, u = .slice A n c ∧ n ≤ c ∧ Arr w A n G := by
  obtain ⟨-, A, c, rfl, hc, hx⟩ := h
  refine ⟨A, c, rfl, hc, fun k hk => ?_⟩
  obtain ⟨ad, v, e1, e2, e3, e4, e5⟩ := hx k hk 0 (by omega)
  rw [hF] at e5
  obtain rfl : v = G k := e5
  exact ⟨ad, e1, by simpa using e3⟩
theorem rep_ints {f : Nat → Int} (h : RepC σ O w (.ls n 1 (iF f)) u) : ∃ A c, u = .slice A n c ∧ n ≤ c ∧ Ints w A n f := rep_arr (fun _ => rfl) h
theorem rep_bools {f : Nat → Bool} (h : RepC σ O w (.ls n 1 (bF f)) u) : ∃ A c, u = .slice A n c ∧ n ≤ c ∧ Bools w A n f := rep_arr (fun _ => rfl) h
theorem rep3 {a b : Value} {x : CV} (h : RepV σ O w (.ag [.p a, .p b, x]) u) : ∃ v, u = .agg #[a, b, v] ∧ RepC σ O w x v := by
  obtain ⟨vs, rfl, hl⟩ := h
  match vs, hl with
  | [p, q, r], ⟨h1, h2, h3, _⟩ =>
    obtain rfl : p = a := h1.2
    obtain rfl : q = b := h2.2
    exact ⟨r, rfl, h3⟩
theorem mine_rep {base : Nat} {A : Option Addr} {t : TypeId} {c : Nat} {F : Nat → Nat → CV} {G : Nat → Value} (hF : ∀ k, F k 0 = .p (G k)) (h1 : ∀ k, k < n → (G k).oneCell' = true) (hb : ∀ b, O b → b < base) (hc : n ≤ c) (h : Mine w base A t n G) : RepC σ O w (.ls n 1 F) (.slice A n c) := by
  refine ⟨rfl, A, c, rfl, hc, fun k hk j hj => ?_⟩
  obtain ⟨g, rfl, hg, cs, hB, hx⟩ := h (by omega)
  obtain rfl : j = 0 := by omega
  refine ⟨⟨g, 0, none⟩, G k, rfl, fun ho => by have := hb _ ho; simp at this; omega, ?_, h1 k hk, by rw [hF]; rfl⟩
  rw [add_off]
  simpa using (hB.cell k).trans (hx k hk)
theorem row_rep {base sz : Nat} {e : TypeId} {v : Value} {F : Nat → Nat → CV} {xs : List Value} (hb : ∀ b, O b → b < base) (h : w.ownsRow base e sz v n xs) (hx : ∀ k, k < n → ∀ j, j < sz → ∃ u, xs[k * sz + j]? = some u ∧ u.oneCell' = true ∧ F k j = .p u) : RepC σ O w (.ls n sz F) v := by
  rcases h.2 with ⟨rfl, h0⟩ | ⟨g, cap, cur, rfl, hg, hB, hnc, _, hsz, htake⟩
  · exact ⟨rfl, none, 0, by rw [h0], by omega, fun k hk => by omega⟩
  · refine ⟨rfl, _, cap, rfl, hnc, fun k hk j hj => ?_⟩
    obtain ⟨u, e1, e2, e3⟩ := hx k hk j hj
    refine ⟨⟨g, 0, none⟩, u, rfl, fun ho => by have := hb _ ho; simp at this; omega, ?_, e2, by rw [e3]; rfl⟩
    rw [add_off, Nat.zero_add]
    refine (cell_of_row w g _ cur e (0, 0) hB).trans ?_
    rw [← htake, List.getElem?_take_of_lt (cell_in hk hj)] at e1
    simpa using e1
theorem nil_rep {sz : Nat} {F : Nat → Nat → CV} : RepC σ O w (.ls 0 sz F) (.slice none 0 0) := ⟨rfl, none, 0, rfl, Nat.le_refl _, fun k hk => absurd hk (Nat.not_lt_zero _)⟩
end
end Go.AV
namespace Go.Proofs.Ytclaanggpcjnbaa
open Go.RowKit Go.Flow Go.AV
abbrev imgV (W H : Int) (n : Nat) (f : Nat → Int) : List CV := [iC W, iC H, .ls n 1 (iF f)]
abbrev bmpV (W H : Int) (n : Nat) (f : Nat → Bool) : List CV := [iC W, iC H, .ls n 1 (bF f)]
abbrev rctV (a b c d : Int) : List CV := [iC a, iC b, iC c, iC d]
theorem rep_img {σ : Nat → Option Value} {O : Nat → Prop} {w : World} {u : Value} {W H : Int} {n : Nat} {f : Nat → Int} (h : RepV σ O w (.ag (imgV W H n f)) u) : ∃ A c, u = img W H A n c ∧ n ≤ c ∧ Ints w A n f := by
  obtain ⟨v, rfl, hv⟩ := rep3 h
  obtain ⟨A, c, rfl, h1, h2⟩ := rep_ints hv
  exact ⟨A, c, rfl, h1, h2⟩
theorem rep_bmp {σ : Nat → Option Value} {O : Nat → Prop} {w : World} {u : Value} {W H : Int} {n : Nat} {f : Nat → Bool} (h : RepV σ O w (.ag (bmpV W H n f)) u) : ∃ A c, u = bmp W H A n c ∧ n ≤ c ∧ Bools w A n f := by
  obtain ⟨v, rfl, hv⟩ := rep3 h
  obtain ⟨A, c, rfl, h1, h2⟩ := rep_bools hv
  exact ⟨A, c, rfl, h1, h2⟩
theorem img_rep {σ : Nat → Option Value} {O : Nat → Prop} {w : World} {W H : Int} {n c base : Nat} {A : Option Addr} {f : Nat → Int} (hb : ∀ b, O b → b < base) (hc : n ≤ c) (h : Mine w base A 3 n (fun k => .int .i64 (f k))) : RepV σ O w (.ag (imgV W H n f)) (img W H A n c) :=
  ⟨[_, _, _], rfl, ⟨rfl, rfl⟩, ⟨rfl, rfl⟩, mine_rep (fun _ => rfl) (fun _ _ => rfl) hb hc h, trivial⟩
theorem rep_rct {σ : Nat → Option Value} {O : Nat → Prop} {w : World} {u : Value} {a b c d : Int} (h : RepV σ O w (.ag (rctV a b c d)) u) : u = .agg #[.int .i64 a, .int .i64 b, .int .i64 c, .int .i64 d] := by
  obtain ⟨vs, rfl, hl⟩ := h
  match vs, hl with
  | [p, q, r, s], ⟨h1, h2, h3, h4, _⟩ =>
    obtain rfl : p = _ := h1.2
    obtain rfl : q = _ := h2.2
    obtain rfl : r = _ := h3.2
    obtain rfl : s = _ := h4.2
    rfl
theorem rep_c {σ : Nat → Option Value} {O : Nat → Prop} {w : World} {u v : Value} (h : RepV σ O w (.c (.p v)) u) : u = v := h.2
theorem rct_rep {σ : Nat → Option Value} {O : Nat → Prop} {w : World} {a b c d : Int} : RepV σ O w (.ag (rctV a b c d)) (.agg #[.int .i64 a, .int .i64 b, .int .i64 c, .int .i64 d]) :=
  ⟨[_, _, _, _], rfl, ⟨rfl, rfl⟩, ⟨rfl, rfl⟩, ⟨rfl, rfl⟩, ⟨rfl, rfl⟩, trivial⟩
/-- The lists of arguments, taken apart. -/
theorem args1 {R : V1 → Value → Prop} {a : V1} {vals : List Value} (h : RepL R [a] vals) : ∃ x, vals = [x] ∧ R a x := by
  match vals, h with
  | [x], ⟨h1, _⟩ => exact ⟨x, rfl, h1⟩
theorem args2 {R : V1 → Value → Prop} {a b : V1} {vals : List Value} (h : RepL R [a, b] vals) : ∃ x y, vals = [x, y] ∧ R a x ∧ R b y := by
  match vals, h with
  | [x, y], ⟨h1, h2, _⟩ => exact ⟨x, y, rfl, h1, h2⟩
theorem args3 {R : V1 → Value → Prop} {a b c : V1} {vals : List Value} (h : RepL R [a, b, c] vals) : ∃ x y z, vals = [x, y, z] ∧ R a x ∧ R b y ∧ R c z := by
  match vals, h with
  | [x, y, z], ⟨h1, h2, h3, _⟩ => exact ⟨x, y, z, rfl, h1, h2, h3⟩
theorem args4 {R : V1 → Value → Prop} {a b c d : V1} {vals : List Value} (h : RepL R [a, b, c, d] vals) : ∃ x y z t, vals = [x, y, z, t] ∧ R a x ∧ R b y ∧ R c z ∧ R d t := by
  match vals, h with
  | [x, y, z, t], ⟨h1, h2, h3, h4, _⟩ => exact ⟨x, y, z, t, rfl, h1, h2, h3, h4⟩
theorem args5 {R : V1 → Value → Prop} {a b c d e : V1} {vals : List Value} (h : RepL R [a, b, c, d, e] vals) : ∃ x y z t s, vals = [x, y, z, t, s] ∧ R a x ∧ R b y ∧ R c z ∧ R d t ∧ R e s := by
  match vals, h with
  | [x, y, z, t, s], ⟨h1, h2, h3, h4, h5, _⟩ => exact ⟨x, y, z, t, s, rfl, h1, h2, h3, h4, h5⟩
end Go.Proofs.Ytclaanggpcjnbaa
end

section
/- ref01.Mod, Draw.Next over plain values. -/
namespace Go.Proofs.Ytclaanggpcjnbaa
open Go.RowKit Go.Flow Go.AV
theorem Mod_A (n m : Int) (hm : 0 < m) (hM : m ≤ 1000000) : ACalls Try.prog 46 [.c (iC n), .c (iC m)] (.c (iC (n % m))) :=
  ACalls.old rfl fun O w vals h => by
    obtain ⟨x, y, rfl, h1, h2⟩ := args2 h
    cases rep_c h1
    cases rep_c h2
    exact (Mod_any n m hm hM w).mono fun e w' ⟨a, b⟩ => ⟨a, b ▸ Ext.refl w⟩
abbrev drawB (N : Nat) (f : Nat → Int) (a : Nat) : AB := ⟨false, 1, 2, 73, lF [.ls N 1 (iF f), iC a]⟩
set_option maxRecDepth 100000 in
theorem Next_A (N : Nat) (f : Nat → Int) (a : Nat) (m : Int) (ha : a ≤ N) (hN : N ≤ 4611686018427387904) (hm : 0 < m) (hM : m ≤ 1000000) :
    HCalls Try.prog 29 [.c (.pt 1000 2 0 0), .c (iC m)] [(1000, drawB N f a)] (.c (iC (dval N f a m))) [(1000, drawB N f (dat N a))] := by
  by_cases hlt : a < N
  · have e1 : dval N f a m = f a % m := if_pos hlt
    have e2 : dat N a = a + 1 := if_pos hlt
    rw [e1, e2]
    refine hcalls_at Try.func29 rfl rfl Try.ntmps29 rfl rfl (fun p hp => by cases hp with | head => exact fun k j _ _ => lF_imm rfl k j | tail _ h => cases h) ?_
    repeat (first
      | refine AWp.seq ?_
      | refine thenA_n ?_
      | refine AWp.skip ?_
      | refine AWp.ret ?_
      | refine AWp.condF rfl (by first | rfl | assumption | exact cmF) ?_
      | (refine AWp.region (id := 0) ?_
         refine AList.assign rfl rfl rfl ?_
         refine AList.nil ?_)
      | (refine AWp.draw (id := 1) mixed ?_
         refine AList.move rfl rfl rfl ?_
         refine AList.nilPt rfl rfl rfl rfl ?_
         refine AList.fieldPt tyOk rfl rfl rfl rfl rfl rfl rfl ?_
         refine AList.load1 tyOk rfl rfl rfl rfl rfl rfl rfl oM oM ?_
         refine AList.move rfl rfl rfl ?_
         refine AList.nilPt rfl rfl rfl rfl ?_
         refine AList.fieldPt tyOk rfl rfl rfl rfl rfl rfl rfl ?_
         refine AList.load1 tyOk rfl rfl rfl rfl rfl rfl rfl oM oM ?_
         refine AList.lenLs tyOk rfl rfl rfl rfl rfl ?_
         refine AList.cmpF rfl rfl rfl rfl rfl cmF ?_
         refine AList.nil ⟨by kernel_rfl, ?_⟩)
      | (refine AWp.region (id := 3) ?_
         refine AList.move rfl rfl rfl ?_
         refine AList.nilPt rfl rfl rfl rfl ?_
         refine AList.fieldPt tyOk rfl rfl rfl rfl rfl rfl rfl ?_
         refine AList.load1 tyOk rfl rfl rfl rfl rfl rfl rfl oM oM ?_
         refine AList.add rfl rfl rfl rfl (by omega) (by omega) ?_
         refine AList.nilPt rfl rfl rfl rfl ?_
         refine AList.fieldPt tyOk rfl rfl rfl rfl rfl rfl rfl ?_
         refine AList.store tyOk rfl rfl rfl rfl rfl rfl rfl rfl oM oM ?_
         refine AList.nil ?_)
      | (refine AWp.draw (id := 4) mixed ?_
         refine AList.move rfl rfl rfl ?_
         refine AList.nilPt rfl rfl rfl rfl ?_
         refine AList.fieldPt tyOk rfl rfl rfl rfl rfl rfl rfl ?_
         refine AList.load1 tyOk rfl rfl rfl rfl rfl rfl rfl oM oM ?_
         refine AList.move rfl rfl rfl ?_
         refine AList.nilPt rfl rfl rfl rfl ?_
         refine AList.fieldPt tyOk rfl rfl rfl rfl rfl rfl rfl ?_
         refine AList.load1 tyOk rfl rfl rfl rfl rfl rfl rfl oM oM ?_
         refine AList.sub rfl rfl rfl rfl (by omega) (by omega) ?_
         refine AList.idx (k := a) tyOk rfl rfl rfl rfl rfl rfl rfl rfl (by first | rfl | omega) oM oM ?_
         refine AList.load1l tyOk rfl rfl rfl rfl rfl oM ?_
         refine AList.move rfl rfl rfl ?_
         refine AList.call rfl rfl rfl rfl Try.func46 rfl (by kernel_rfl) (Mod_A (f a) m hm hM) ?_
         refine AList.assign rfl rfl rfl ?_
         refine AList.nil ⟨by kernel_rfl, ?_⟩))
    refine ⟨mkL 35 1 [(4, .c (iC (f a % m)))] [(1000, drawB N f (a + 1))] [], [], Wk.mkL [] rfl rfl rfl rfl rfl ?_ ?_, rfl, rfl, ARets.one (x := .c _) (ARes.tmp rfl rfl)⟩
    · repeat (first | exact trivial | refine ⟨⟨_, rfl, by first | exact LeA.c (LeC.refl _ rfl) | exact LeA.c (LeC.ow _ _ rfl) | exact LeA.c (LeC.pt _ _ _ _ _ rfl) | exact LeA.c (LeC.nil _ rfl) | exact LeA.c (LeC.nils _ _) | (refine LeA.int ?_; omega) | (refine LeA.int ?_; dsimp only; omega) | exact LeA.c (LeC.fz rfl rfl (by first | rfl | omega) (fun i _ j _ => ⟨rfl, by first | rfl | exact rowN_imm (fun _ => rfl) _ i j | exact rowF_imm (fun _ => rfl) _ i j⟩))⟩, ?_⟩)
    · repeat (first | exact trivial | refine ⟨by first | exact HeapOk.same rfl rfl rfl rfl | exact HeapOk.lent rfl rfl rfl rfl | exact HeapOk.nil rfl rfl | exact HeapOk.row rfl rfl (by first | rfl | omega) (fun i _ j _ => ⟨rfl, by first | rfl | exact rowN_imm (fun _ => rfl) _ i j | exact rowF_imm (fun _ => rfl) _ i j⟩) | exact HeapOk.box rfl rfl (by repeat (first | exact trivial | refine ⟨by first | exact LeC.refl _ rfl | exact LeC.ow _ _ rfl | exact LeC.nil _ rfl | exact LeC.nils _ _ | exact LeC.fz rfl rfl (by first | rfl | omega) (fun i _ j _ => ⟨rfl, by first | rfl | exact rowN_imm (fun _ => rfl) _ i j | exact rowF_imm (fun _ => rfl) _ i j⟩) | exact LeC.int (by omega), ?_⟩)) rfl, ?_⟩)
  · have e1 : dval N f a m = 0 := if_neg hlt
    have e2 : dat N a = a := if_neg hlt
    rw [e1, e2]
    refine hcalls_at Try.func29 rfl rfl Try.ntmps29 rfl rfl (fun p hp => by cases hp with | head => exact fun k j _ _ => lF_imm rfl k j | tail _ h => cases h) ?_
    repeat (first
      | refine AWp.seq ?_
      | refine thenA_n ?_
      | refine AWp.ret ?_
      | refine thenA_r ?_
      | refine AWp.condT rfl (by first | rfl | assumption | exact cmT) ?_
      | (refine AWp.region (id := 0) ?_
         refine AList.assign rfl rfl rfl ?_
         refine AList.nil ?_)
      | (refine AWp.draw (id := 1) mixed ?_
         refine AList.move rfl rfl rfl ?_
         refine AList.nilPt rfl rfl rfl rfl ?_
         refine AList.fieldPt tyOk rfl rfl rfl rfl rfl rfl rfl ?_
         refine AList.load1 tyOk rfl rfl rfl rfl rfl rfl rfl oM oM ?_
         refine AList.move rfl rfl rfl ?_
         refine AList.nilPt rfl rfl rfl rfl ?_
         refine AList.fieldPt tyOk rfl rfl rfl rfl rfl rfl rfl ?_
         refine AList.load1 tyOk rfl rfl rfl rfl rfl rfl rfl oM oM ?_
         refine AList.lenLs tyOk rfl rfl rfl rfl rfl ?_
         refine AList.cmpT rfl rfl rfl rfl rfl cmT ?_
         refine AList.nil ⟨by kernel_rfl, ?_⟩)
      | (refine AWp.region (id := 2) ?_
         refine AList.assign rfl rfl rfl ?_
         refine AList.nil ?_))
    refine ⟨mkL 35 1 [(4, .c (iC 0))] [(1000, drawB N f a)] [], [], Wk.mkL [] rfl rfl rfl rfl rfl ?_ ?_, rfl, rfl, ARets.one (x := .c _) (ARes.tmp rfl rfl)⟩
    · repeat (first | exact trivial | refine ⟨⟨_, rfl, by first | exact LeA.c (LeC.refl _ rfl) | exact LeA.c (LeC.ow _ _ rfl) | exact LeA.c (LeC.pt _ _ _ _ _ rfl) | exact LeA.c (LeC.nil _ rfl) | exact LeA.c (LeC.nils _ _) | (refine LeA.int ?_; omega) | (refine LeA.int ?_; dsimp only; omega) | exact LeA.c (LeC.fz rfl rfl (by first | rfl | omega) (fun i _ j _ => ⟨rfl, by first | rfl | exact rowN_imm (fun _ => rfl) _ i j | exact rowF_imm (fun _ => rfl) _ i j⟩))⟩, ?_⟩)
    · repeat (first | exact trivial | refine ⟨by first | exact HeapOk.same rfl rfl rfl rfl | exact HeapOk.lent rfl rfl rfl rfl | exact HeapOk.nil rfl rfl | exact HeapOk.row rfl rfl (by first | rfl | omega) (fun i _ j _ => ⟨rfl, by first | rfl | exact rowN_imm (fun _ => rfl) _ i j | exact rowF_imm (fun _ => rfl) _ i j⟩) | exact HeapOk.box rfl rfl (by repeat (first | exact trivial | refine ⟨by first | exact LeC.refl _ rfl | exact LeC.ow _ _ rfl | exact LeC.nil _ rfl | exact LeC.nils _ _ | exact LeC.fz rfl rfl (by first | rfl | omega) (fun i _ j _ => ⟨rfl, by first | rfl | exact rowN_imm (fun _ => rfl) _ i j | exact rowF_imm (fun _ => rfl) _ i j⟩) | exact LeC.int (by omega), ?_⟩)) rfl, ?_⟩)
end Go.Proofs.Ytclaanggpcjnbaa
end
