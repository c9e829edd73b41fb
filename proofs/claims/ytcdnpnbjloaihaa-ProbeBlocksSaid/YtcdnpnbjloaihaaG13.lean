/- Parts of the proof: AOld, A01, ImgPutR. -/
import Derived.Test.YtcdnpnbjloaihaaG11
import Derived.Test.YtcdnpnbjloaihaaG12
import Derived.Test.YtcdnpnbjloaihaaProg
set_option linter.unusedSimpArgs false
set_option linter.unusedVariables false
section
/- Contracts in terms of worlds as contracts over plain values. No condition. -/
namespace Go.AV
open Go Go.RowKit Go.Flow
abbrev iC (i : Int) : CV := .p (.int .i64 i)
abbrev bC (b : Bool) : CV := .p (.bool b)
abbrev iF (f : Nat → Int) (k _ : Nat) : CV := .p (.int .i64 (f k))
abbrev bF (f : Nat → Bool) (k _ : Nat) : CV := .p (.bool (f k))
abbrev natF (l : List Nat) : Nat → Int := fun j => (l.getD j 0 : Nat)
section
variable {P : Program}
theorem ACalls.of {f : FuncId} {args : List V1} {r : AV} (h : ∀ (O : Nat → Prop) (w : World) (vals : List Value), (∀ b, O b → b < w.heap.size) → RepL (RepV (fun _ => none) O w) args vals →
    Calls P f vals.toArray w fun e w' => ∃ v, e = .returned v ∧ RepA (fun _ => none) O w' r v ∧ Ext w w') : ACalls P f args r := fun b0 vals hH hle hY hv => by
  have hfix : b0.fix = fun _ => none := by
    funext i
    cases hf : b0.fix i with
    | none => rfl
    | some v =>
      have h1 := hle i v hf
      have h2 := (b0.one i v hf).1
      simp at h1
      omega
  rw [hfix] at hH hv hY
  have hlt : ∀ b, out b0 (fun _ => none) (assoc []) b → b < b0.w.heap.size := fun b hb => hb.elim (fun ⟨i, v, h1, _⟩ => absurd rfl h1) (b0.lt b)
  refine (h _ _ vals hlt hv).mono fun e w' ⟨v, h1, h2, h3⟩ => ⟨v, h1, by rw [hfix]; exact h2, ?_, Keep.of_ext h3⟩
  rw [hfix]
  exact ⟨fun i B hB => (by cases hB), fun i j v1 v2 b hi => absurd rfl hi, fun b ⟨i, v, h1, _⟩ => absurd rfl h1, fun i v hi => (by rw [hfix] at hi; cases hi), fun _ _ _ => rfl⟩
/-- A contract at a plain value. -/
theorem ACalls.old {f : FuncId} {args : List V1} {v : Value} (hv : v.oneCell' = true) (h : ∀ (O : Nat → Prop) (w : World) (vals : List Value), RepL (RepV (fun _ => none) O w) args vals → Calls P f vals.toArray w fun e w' => e = .returned v ∧ Ext w w') : ACalls P f args (.c (.p v)) :=
  ACalls.of fun O w vals _ hr => (h O w vals hr).mono fun e w' ⟨h1, h2⟩ => ⟨v, h1, rep_p hv, h2⟩
variable {σ : Nat → Option Value} {O : Nat → Prop} {w : World} {u : Value} {n : Nat}
theorem rep_arr {F : Nat → Nat → CV} {G : Nat → Value} (hF : ∀ k, F k 0 = .p (G k)) (h : RepC σ O w (.ls n 1 F) u) : ∃ A c, u = .slice A n c ∧ n ≤ c ∧ Arr w A n G := by
  obtain ⟨-, A, c, rfl, hc, hx⟩ := h
  refine ⟨A, c, rfl, hc, fun k hk => ?_⟩
  obtain ⟨ad, v, e1, e2, e3, e4, e5⟩ := hx k hk 0 (by omega)
  rw [hF] at e5
  obtain rfl : v = G k := e5
  exact ⟨ad, e1, by simpa using e3⟩
theorem rep_ints {f : Nat → Int} (h : RepC σ O w (.ls n 1 (iF f)) u) : ∃ A c, u = .slice A n c ∧ n ≤ c ∧ Ints w A n f := rep_arr (fun _ => rfl) h
theorem rep_bools {f : Nat → Bool} (h : RepC σ O w (.ls n 1 (bF f)) u) : ∃ A c, u = .slice A n c ∧ n ≤ c ∧ Bools w A n f := rep_arr (fun _ => rfl) h
theorem rep3 {a b : Value} {x : CV} (h : RepV σ O w (.ag [.p a, .p b, x]) u) : ∃ v, u = .agg #[a, b, v] ∧ RepC σ O w x v := by
  obtain ⟨vs, rfl, hl⟩ := h
  match vs, hl with
  | [p, q, r], ⟨h1, h2, h3, _⟩ =>
    obtain rfl : p = a := h1.2
    obtain rfl : q = b := h2.2
    exact ⟨r, rfl, h3⟩
theorem mine_rep {base : Nat} {A : Option Addr} {t : TypeId} {c : Nat} {F : Nat → Nat → CV} {G : Nat → Value} (hF : ∀ k, F k 0 = .p (G k)) (h1 : ∀ k, k < n → (G k).oneCell' = true) (hb : ∀ b, O b → b < base) (hc : n ≤ c) (h : Mine w base A t n G) : RepC σ O w (.ls n 1 F) (.slice A n c) := by
  refine ⟨rfl, A, c, rfl, hc, fun k hk j hj => ?_⟩
  obtain ⟨g, rfl, hg, cs, hB, hx⟩ := h (by omega)
  obtain rfl : j = 0 := by omega
  refine ⟨⟨g, 0, none⟩, G k, rfl, fun ho => by have := hb _ ho; simp at this; omega, ?_, h1 k hk, by rw [hF]; rfl⟩
  rw [add_off]
  simpa using (hB.cell k).trans (hx k hk)
theorem row_rep {base sz : Nat} {e : TypeId} {v : Value} {F : Nat → Nat → CV} {xs : List Value} (hb : ∀ b, O b → b < base) (h : w.ownsRow base e sz v n xs) (hx : ∀ k, k < n → ∀ j, j < sz → ∃ u, xs[k * sz + j]? = some u ∧ u.oneCell' = true ∧ F k j = .p u) : RepC σ O w (.ls n sz F) v := by
  rcases h.2 with ⟨rfl, h0⟩ | ⟨g, cap, cur, rfl, hg, hB, hnc, _, hsz, htake⟩
  · exact ⟨rfl, none, 0, by rw [h0], by omega, fun k hk => by omega⟩
  · refine ⟨rfl, _, cap, rfl, hnc, fun k hk j hj => ?_⟩
    obtain ⟨u, e1, e2, e3⟩ := hx k hk j hj
    refine ⟨⟨g, 0, none⟩, u, rfl, fun ho => by have := hb _ ho; simp at this; omega, ?_, e2, by rw [e3]; rfl⟩
    rw [add_off, Nat.zero_add]
    refine (cell_of_row w g _ cur e (0, 0) hB).trans ?_
    rw [← htake, List.getElem?_take_of_lt (cell_in hk hj)] at e1
    simpa using e1
theorem nil_rep {sz : Nat} {F : Nat → Nat → CV} : RepC σ O w (.ls 0 sz F) (.slice none 0 0) := ⟨rfl, none, 0, rfl, Nat.le_refl _, fun k hk => absurd hk (Nat.not_lt_zero _)⟩
end
end Go.AV
namespace Go.Proofs.Ytcdnpnbjloaihaa
open Go.RowKit Go.Flow Go.AV
abbrev imgV (W H : Int) (n : Nat) (f : Nat → Int) : List CV := [iC W, iC H, .ls n 1 (iF f)]
abbrev bmpV (W H : Int) (n : Nat) (f : Nat → Bool) : List CV := [iC W, iC H, .ls n 1 (bF f)]
abbrev rctV (a b c d : Int) : List CV := [iC a, iC b, iC c, iC d]
theorem rep_img {σ : Nat → Option Value} {O : Nat → Prop} {w : World} {u : Value} {W H : Int} {n : Nat} {f : Nat → Int} (h : RepV σ O w (.ag (imgV W H n f)) u) : ∃ A c, u = img W H A n c ∧ n ≤ c ∧ Ints w A n f := by
  obtain ⟨v, rfl, hv⟩ := rep3 h
  obtain ⟨A, c, rfl, h1, h2⟩ := rep_ints hv
  exact ⟨A, c, rfl, h1, h2⟩
theorem rep_bmp {σ : Nat → Option Value} {O : Nat → Prop} {w : World} {u : Value} {W H : Int} {n : Nat} {f : Nat → Bool} (h : RepV σ O w (.ag (bmpV W H n f)) u) : ∃ A c, u = bmp W H A n c ∧ n ≤ c ∧ Bools w A n f := by
  obtain ⟨v, rfl, hv⟩ := rep3 h
  obtain ⟨A, c, rfl, h1, h2⟩ := rep_bools hv
  exact ⟨A, c, rfl, h1, h2⟩
theorem img_rep {σ : Nat → Option Value} {O : Nat → Prop} {w : World} {W H : Int} {n c base : Nat} {A : Option Addr} {f : Nat → Int} (hb : ∀ b, O b → b < base) (hc : n ≤ c) (h : Mine w base A 3 n (fun k => .int .i64 (f k))) : RepV σ O w (.ag (imgV W H n f)) (img W H A n c) :=
  ⟨[_, _, _], rfl, ⟨rfl, rfl⟩, ⟨rfl, rfl⟩, mine_rep (fun _ => rfl) (fun _ _ => rfl) hb hc h, trivial⟩
theorem rep_rct {σ : Nat → Option Value} {O : Nat → Prop} {w : World} {u : Value} {a b c d : Int} (h : RepV σ O w (.ag (rctV a b c d)) u) : u = .agg #[.int .i64 a, .int .i64 b, .int .i64 c, .int .i64 d] := by
  obtain ⟨vs, rfl, hl⟩ := h
  match vs, hl with
  | [p, q, r, s], ⟨h1, h2, h3, h4, _⟩ =>
    obtain rfl : p = _ := h1.2
    obtain rfl : q = _ := h2.2
    obtain rfl : r = _ := h3.2
    obtain rfl : s = _ := h4.2
    rfl
theorem rep_c {σ : Nat → Option Value} {O : Nat → Prop} {w : World} {u v : Value} (h : RepV σ O w (.c (.p v)) u) : u = v := h.2
theorem rct_rep {σ : Nat → Option Value} {O : Nat → Prop} {w : World} {a b c d : Int} : RepV σ O w (.ag (rctV a b c d)) (.agg #[.int .i64 a, .int .i64 b, .int .i64 c, .int .i64 d]) :=
  ⟨[_, _, _, _], rfl, ⟨rfl, rfl⟩, ⟨rfl, rfl⟩, ⟨rfl, rfl⟩, ⟨rfl, rfl⟩, trivial⟩
/-- The lists of arguments, taken apart. -/
theorem args1 {R : V1 → Value → Prop} {a : V1} {vals : List Value} (h : RepL R [a] vals) : ∃ x, vals = [x] ∧ R a x := by
  match vals, h with
  | [x], ⟨h1, _⟩ => exact ⟨x, rfl, h1⟩
theorem args2 {R : V1 → Value → Prop} {a b : V1} {vals : List Value} (h : RepL R [a, b] vals) : ∃ x y, vals = [x, y] ∧ R a x ∧ R b y := by
  match vals, h with
  | [x, y], ⟨h1, h2, _⟩ => exact ⟨x, y, rfl, h1, h2⟩
theorem args3 {R : V1 → Value → Prop} {a b c : V1} {vals : List Value} (h : RepL R [a, b, c] vals) : ∃ x y z, vals = [x, y, z] ∧ R a x ∧ R b y ∧ R c z := by
  match vals, h with
  | [x, y, z], ⟨h1, h2, h3, _⟩ => exact ⟨x, y, z, rfl, h1, h2, h3⟩
theorem args4 {R : V1 → Value → Prop} {a b c d : V1} {vals : List Value} (h : RepL R [a, b, c, d] vals) : ∃ x y z t, vals = [x, y, z, t] ∧ R a x ∧ R b y ∧ R c z ∧ R d t := by
  match vals, h with
  | [x, y, z, t], ⟨h1, h2, h3, h4, _⟩ => exact ⟨x, y, z, t, rfl, h1, h2, h3, h4⟩
theorem args5 {R : V1 → Value → Prop} {a b c d e : V1} {vals : List Value} (h : RepL R [a, b, c, d, e] vals) : ∃ x y z t s, vals = [x, y, z, t, s] ∧ R a x ∧ R b y ∧ R c z ∧ R d t ∧ R e s := by
  match vals, h with
  | [x, y, z, t, s], ⟨h1, h2, h3, h4, h5, _⟩ => exact ⟨x, y, z, t, s, rfl, h1, h2, h3, h4, h5⟩
end Go.Proofs.Ytcdnpnbjloaihaa
end

section
/- ref01.Mod, Draw.Next over plain values. -/
namespace Go.Proofs.Ytcdnpnbjloaihaa
open Go.RowKit Go.Flow Go.AV
theorem Mod_A (n m : Int) (hm : 0 < m) (hM : m ≤ 1000000) : ACalls Try.prog 31 [.c (iC n), .c (iC m)] (.c (iC (n % m))) :=
  ACalls.old rfl fun O w vals h => by
    obtain ⟨x, y, rfl, h1, h2⟩ := args2 h
    cases rep_c h1
    cases rep_c h2
    exact (Mod_any n m hm hM w).mono fun e w' ⟨a, b⟩ => ⟨a, b ▸ Ext.refl w⟩
abbrev drawB (N : Nat) (f : Nat → Int) (a : Nat) : AB := ⟨false, 1, 2, 67, lF [.ls N 1 (iF f), iC a]⟩
set_option maxRecDepth 100000 in
theorem Next_A (N : Nat) (f : Nat → Int) (a : Nat) (m : Int) (ha : a ≤ N) (hN : N ≤ 4611686018427387904) (hm : 0 < m) (hM : m ≤ 1000000) :
    HCalls Try.prog 30 [.c (.pt 1000 2 0 0), .c (iC m)] [(1000, drawB N f a)] (.c (iC (dval N f a m))) [(1000, drawB N f (dat N a))] := by
  by_cases hlt : a < N
  · have e1 : dval N f a m = f a % m := if_pos hlt
    have e2 : dat N a = a + 1 := if_pos hlt
    rw [e1, e2]
    refine hcalls_at Try.func30 rfl rfl Try.ntmps30 rfl rfl (fun p hp => by cases hp with | head => exact fun k j _ _ => lF_imm rfl k j | tail _ h => cases h) ?_
    repeat (first
      | refine AWp.seq ?_
      | refine thenA_n ?_
      | refine AWp.skip ?_
      | refine AWp.ret ?_
      | refine AWp.condF rfl (by first | rfl | exact cmF) ?_
      | (refine AWp.region (id := 0) ?_
         refine AList.assign rfl rfl rfl ?_
         refine AList.nil ?_)
      | (refine AWp.draw (id := 1) mixed ?_
         refine AList.move rfl rfl rfl ?_
         refine AList.nilPt rfl rfl rfl rfl ?_
         refine AList.fieldPt tyOk rfl rfl rfl rfl rfl rfl rfl ?_
         refine AList.load1 tyOk rfl rfl rfl rfl rfl rfl rfl oM oM ?_
         refine AList.move rfl rfl rfl ?_
         refine AList.nilPt rfl rfl rfl rfl ?_
         refine AList.fieldPt tyOk rfl rfl rfl rfl rfl rfl rfl ?_
         refine AList.load1 tyOk rfl rfl rfl rfl rfl rfl rfl oM oM ?_
         refine AList.lenLs tyOk rfl rfl rfl rfl rfl ?_
         refine AList.cmpF rfl rfl rfl rfl rfl cmF ?_
         refine AList.nil ⟨by kernel_rfl, ?_⟩)
      | (refine AWp.region (id := 3) ?_
         refine AList.move rfl rfl rfl ?_
         refine AList.nilPt rfl rfl rfl rfl ?_
         refine AList.fieldPt tyOk rfl rfl rfl rfl rfl rfl rfl ?_
         refine AList.load1 tyOk rfl rfl rfl rfl rfl rfl rfl oM oM ?_
         refine AList.add rfl rfl rfl rfl (by omega) (by omega) ?_
         refine AList.nilPt rfl rfl rfl rfl ?_
         refine AList.fieldPt tyOk rfl rfl rfl rfl rfl rfl rfl ?_
         refine AList.store tyOk rfl rfl rfl rfl rfl rfl rfl rfl oM oM ?_
         refine AList.nil ?_)
      | (refine AWp.draw (id := 4) mixed ?_
         refine AList.move rfl rfl rfl ?_
         refine AList.nilPt rfl rfl rfl rfl ?_
         refine AList.fieldPt tyOk rfl rfl rfl rfl rfl rfl rfl ?_
         refine AList.load1 tyOk rfl rfl rfl rfl rfl rfl rfl oM oM ?_
         refine AList.move rfl rfl rfl ?_
         refine AList.nilPt rfl rfl rfl rfl ?_
         refine AList.fieldPt tyOk rfl rfl rfl rfl rfl rfl rfl ?_
         refine AList.load1 tyOk rfl rfl rfl rfl rfl rfl rfl oM oM ?_
         refine AList.sub rfl rfl rfl rfl (by omega) (by omega) ?_
         refine AList.idx (k := a) tyOk rfl rfl rfl rfl rfl rfl rfl rfl (by first | rfl | omega) oM oM ?_
         refine AList.load1l tyOk rfl rfl rfl rfl rfl oM ?_
         refine AList.move rfl rfl rfl ?_
         refine AList.call rfl rfl rfl rfl Try.func31 rfl (by kernel_rfl) (Mod_A (f a) m hm hM) ?_
         refine AList.assign rfl rfl rfl ?_
         refine AList.nil ⟨by kernel_rfl, ?_⟩))
    refine ⟨mkL 35 1 [(4, .c (iC (f a % m)))] [(1000, drawB N f (a + 1))] [], [], Wk.mkL [] rfl rfl rfl rfl rfl ?_ ?_, rfl, rfl, ARets.one (x := .c _) (ARes.tmp rfl rfl)⟩
    · repeat (first | exact trivial | refine ⟨⟨_, rfl, by first | exact LeA.c (LeC.refl _ rfl) | exact LeA.c (LeC.ow _ _ rfl) | exact LeA.c (LeC.pt _ _ _ _ _ rfl) | exact LeA.c (LeC.nil _ rfl) | exact LeA.c (LeC.nils _ _) | (refine LeA.int ?_; omega) | (refine LeA.int ?_; dsimp only; omega) | exact LeA.c (LeC.fz rfl rfl (by first | rfl | omega) (fun i _ j _ => ⟨rfl, by first | rfl | exact rowN_imm (fun _ => rfl) _ i j | exact rowF_imm (fun _ => rfl) _ i j⟩))⟩, ?_⟩)
    · repeat (first | exact trivial | refine ⟨by first | exact HeapOk.same rfl rfl rfl rfl | exact HeapOk.lent rfl rfl rfl rfl | exact HeapOk.nil rfl rfl | exact HeapOk.row rfl rfl (by first | rfl | omega) (fun i _ j _ => ⟨rfl, by first | rfl | exact rowN_imm (fun _ => rfl) _ i j | exact rowF_imm (fun _ => rfl) _ i j⟩) | exact HeapOk.box rfl rfl (by repeat (first | exact trivial | refine ⟨by first | exact LeC.refl _ rfl | exact LeC.ow _ _ rfl | exact LeC.nil _ rfl | exact LeC.nils _ _ | exact LeC.fz rfl rfl (by first | rfl | omega) (fun i _ j _ => ⟨rfl, by first | rfl | exact rowN_imm (fun _ => rfl) _ i j | exact rowF_imm (fun _ => rfl) _ i j⟩) | exact LeC.int (by omega), ?_⟩)) rfl, ?_⟩)
  · have e1 : dval N f a m = 0 := if_neg hlt
    have e2 : dat N a = a := if_neg hlt
    rw [e1, e2]
    refine hcalls_at Try.func30 rfl rfl Try.ntmps30 rfl rfl (fun p hp => by cases hp with | head => exact fun k j _ _ => lF_imm rfl k j | tail _ h => cases h) ?_
    repeat (first
      | refine AWp.seq ?_
      | refine thenA_n ?_
      | refine AWp.ret ?_
      | refine thenA_r ?_
      | refine AWp.condT rfl (by first | rfl | exact cmT) ?_
      | (refine AWp.region (id := 0) ?_
         refine AList.assign rfl rfl rfl ?_
         refine AList.nil ?_)
      | (refine AWp.draw (id := 1) mixed ?_
         refine AList.move rfl rfl rfl ?_
         refine AList.nilPt rfl rfl rfl rfl ?_
         refine AList.fieldPt tyOk rfl rfl rfl rfl rfl rfl rfl ?_
         refine AList.load1 tyOk rfl rfl rfl rfl rfl rfl rfl oM oM ?_
         refine AList.move rfl rfl rfl ?_
         refine AList.nilPt rfl rfl rfl rfl ?_
         refine AList.fieldPt tyOk rfl rfl rfl rfl rfl rfl rfl ?_
         refine AList.load1 tyOk rfl rfl rfl rfl rfl rfl rfl oM oM ?_
         refine AList.lenLs tyOk rfl rfl rfl rfl rfl ?_
         refine AList.cmpT rfl rfl rfl rfl rfl cmT ?_
         refine AList.nil ⟨by kernel_rfl, ?_⟩)
      | (refine AWp.region (id := 2) ?_
         refine AList.assign rfl rfl rfl ?_
         refine AList.nil ?_))
    refine ⟨mkL 35 1 [(4, .c (iC 0))] [(1000, drawB N f a)] [], [], Wk.mkL [] rfl rfl rfl rfl rfl ?_ ?_, rfl, rfl, ARets.one (x := .c _) (ARes.tmp rfl rfl)⟩
    · repeat (first | exact trivial | refine ⟨⟨_, rfl, by first | exact LeA.c (LeC.refl _ rfl) | exact LeA.c (LeC.ow _ _ rfl) | exact LeA.c (LeC.pt _ _ _ _ _ rfl) | exact LeA.c (LeC.nil _ rfl) | exact LeA.c (LeC.nils _ _) | (refine LeA.int ?_; omega) | (refine LeA.int ?_; dsimp only; omega) | exact LeA.c (LeC.fz rfl rfl (by first | rfl | omega) (fun i _ j _ => ⟨rfl, by first | rfl | exact rowN_imm (fun _ => rfl) _ i j | exact rowF_imm (fun _ => rfl) _ i j⟩))⟩, ?_⟩)
    · repeat (first | exact trivial | refine ⟨by first | exact HeapOk.same rfl rfl rfl rfl | exact HeapOk.lent rfl rfl rfl rfl | exact HeapOk.nil rfl rfl | exact HeapOk.row rfl rfl (by first | rfl | omega) (fun i _ j _ => ⟨rfl, by first | rfl | exact rowN_imm (fun _ => rfl) _ i j | exact rowF_imm (fun _ => rfl) _ i j⟩) | exact HeapOk.box rfl rfl (by repeat (first | exact trivial | refine ⟨by first | exact LeC.refl _ rfl | exact LeC.ow _ _ rfl | exact LeC.nil _ rfl | exact LeC.nils _ _ | exact LeC.fz rfl rfl (by first | rfl | omega) (fun i _ j _ => ⟨rfl, by first | rfl | exact rowN_imm (fun _ => rfl) _ i j | exact rowF_imm (fun _ => rfl) _ i j⟩) | exact LeC.int (by omega), ?_⟩)) rfl, ?_⟩)
end Go.Proofs.Ytcdnpnbjloaihaa
end

section
/- Put of the reference. No condition but those that each states. -/
namespace Go.Proofs.Ytcdnpnbjloaihaa
open Go.RowKit Go.Flow
open Go.Proofs
attribute [local go_sem] block_add
attribute [local go_sem ↓] Go.wp_at_zero Go.wp_at_succ

theorem shift_any (dx dy : Int) (w : World) : Calls Try.prog 46 #[.int .i64 dx, .int .i64 dy] w fun e w' => e = .returned (.bool (shiftB dx dy)) ∧ w = w' := by
  by_cases h1 : -2 ≤ dx
  · by_cases h2 : dx ≤ 2
    · by_cases h3 : -2 ≤ dy
      · by_cases h4 : dy ≤ 2
        · go_enter Try.func46, Try.ntmps46
          go_wp2
          go_ret
          exact ⟨ret_bool (by simp [shiftB]; omega), rfl⟩
        · go_enter Try.func46, Try.ntmps46
          go_wp2
          go_ret
          exact ⟨ret_bool (by simp [shiftB]; omega), rfl⟩
      · go_enter Try.func46, Try.ntmps46
        go_wp2
        go_ret
        exact ⟨ret_bool (by simp [shiftB]; omega), rfl⟩
    · go_enter Try.func46, Try.ntmps46
      go_wp2
      go_ret
      exact ⟨ret_bool (by simp [shiftB]; omega), rfl⟩
  · go_enter Try.func46, Try.ntmps46
    go_wp2
    go_ret
    exact ⟨ret_bool (by simp [shiftB]; omega), rfl⟩


/-- Get of a good bitmap. -/
theorem Get_any (W H : Int) (A : Option Addr) (n c : Nat) (dot : Nat → Bool) (x y : Int) (w : World) (hok : chk W H n = 0) (hA : Bools w A n dot) :
    Calls Try.prog 47 #[bmp W H A n c, .int .i64 x, .int .i64 y] w fun e w' => e = .returned (.bool (hasB W H dot x y)) ∧ Ext w w' := by
  have hE := Lib.hid ((Ext.refl w).alloc (.cells #[.int .i64 W, .int .i64 H, .slice A n c] 48))
  have hB := Lib.hid (Blk.new w 48 #[.int .i64 W, .int .i64 H, .slice A n c])
  have hk := okB hok
  have hne : (chk W H n == 0) = true := by simpa using hok
  replace hok := Lib.hid hok
  by_cases h1 : 0 ≤ x
  · by_cases h2 : x < W
    · by_cases h3 : 0 ≤ y
      · by_cases h4 : y < H
        · have hp0 : 0 ≤ y * W := Int.mul_nonneg h3 (by omega)
          have hp1 : y * W + W ≤ W * H := by
            have : (y + 1) * W ≤ H * W := Int.mul_le_mul_of_nonneg_right (by omega) (by omega)
            rw [Int.add_mul, Int.mul_comm H W] at this
            omega
          have hbd := area_bd ⟨hk.1, hk.2.1⟩ ⟨hk.2.2.1, hk.2.2.2.1⟩
          obtain ⟨hk1, hk2, hk3, hk4, hk5⟩ := hk
          have hlt : y * W + x < n := by omega
          have hub : n ≤ 9216 := by omega
          have e0 : hasB W H dot x y = dot (y * W + x).toNat := hasB_in h1 h2 h3 h4
          rw [e0]
          clear hk5 hbd hp1 e0
          obtain ⟨m, hm⟩ : ∃ m : Nat, y * W + x = m := ⟨(y * W + x).toNat, by omega⟩
          have hmn : m < n := by omega
          have hw1 : IntKind.i64.wrap (y * W) = y * W := by rw [IntKind.wrap_i64]; omega
          have hw2 : IntKind.i64.wrap (y * W + x) = m := by rw [IntKind.wrap_i64]; omega
          have hmn' : (m : Int) < n := by omega
          have e1 : (y * W + x).toNat = m := by omega
          rw [e1]
          have hA1 := Lib.hid (hA.ext hE.out)
          clear e1 hlt
          obtain ⟨v, hv⟩ : ∃ v, dot m = v := ⟨_, rfl⟩
          rw [hv]
          go_enter Try.func47, Try.ntmps47
          go_wp2_with fail
          refine (Check_any W H A n c _).mono ?_
          rintro e w1 ⟨rfl, hE1⟩
          obtain ⟨bc, bf, bl⟩ := (hB.out.ext hE1).rules
          obtain ⟨ad, rfl, hc⟩ := hA1.out.ext hE1 m hmn
          have hal := lt_of_cell hc
          simp only [hv] at hc
          replace hv := Lib.hid hv
          replace hE1 := Lib.hid (hE.out.trans hE1)
          go_wp2_with fail
          go_ret
          exact ⟨rfl, hE1.out⟩
        · have e0 : hasB W H dot x y = false := by unfold hasB; rw [if_neg (by omega)]
          rw [e0]
          clear e0 hk
          go_enter Try.func47, Try.ntmps47
          go_wp2_with fail
          refine (Check_any W H A n c _).mono ?_
          rintro e w1 ⟨rfl, hE1⟩
          obtain ⟨bc, bf, bl⟩ := (hB.out.ext hE1).rules
          replace hE1 := Lib.hid (hE.out.trans hE1)
          go_wp2_with fail
          go_ret
          exact ⟨rfl, hE1.out⟩
      · have e0 : hasB W H dot x y = false := by unfold hasB; rw [if_neg (by omega)]
        rw [e0]
        clear e0 hk
        go_enter Try.func47, Try.ntmps47
        go_wp2_with fail
        refine (Check_any W H A n c _).mono ?_
        rintro e w1 ⟨rfl, hE1⟩
        obtain ⟨bc, bf, bl⟩ := (hB.out.ext hE1).rules
        replace hE1 := Lib.hid (hE.out.trans hE1)
        go_wp2_with fail
        go_ret
        exact ⟨rfl, hE1.out⟩
    · have e0 : hasB W H dot x y = false := by unfold hasB; rw [if_neg (by omega)]
      rw [e0]
      clear e0 hk
      go_enter Try.func47, Try.ntmps47
      go_wp2_with fail
      refine (Check_any W H A n c _).mono ?_
      rintro e w1 ⟨rfl, hE1⟩
      obtain ⟨bc, bf, bl⟩ := (hB.out.ext hE1).rules
      replace hE1 := Lib.hid (hE.out.trans hE1)
      go_wp2_with fail
      go_ret
      exact ⟨rfl, hE1.out⟩
  · have e0 : hasB W H dot x y = false := by unfold hasB; rw [if_neg (by omega)]
    rw [e0]
    clear e0 hk
    go_enter Try.func47, Try.ntmps47
    go_wp2_with fail
    refine (Check_any W H A n c _).mono ?_
    rintro e w1 ⟨rfl, hE1⟩
    obtain ⟨bc, bf, bl⟩ := (hB.out.ext hE1).rules
    replace hE1 := Lib.hid (hE.out.trans hE1)
    go_wp2_with fail
    go_ret
    exact ⟨rfl, hE1.out⟩


theorem RPut_bad1 (W H : Int) (A : Option Addr) (n c : Nat) (dx dy : Int) (w : World) (hok : chk W H n ≠ 0) :
    Calls Try.prog 26 #[bmp W H A n c, .int .i64 dx, .int .i64 dy] w fun e w' => e = .returned (.tuple #[img 0 0 none 0 0, .int .i64 (chk W H n)]) ∧ Ext w w' := by
  have hne : (chk W H n != 0) = true := by simpa using hok
  replace hok := Lib.hid hok
  have hP := Lib.hid ((Ext.refl w).alloc (.cells #[.int .i64 W, .int .i64 H, .slice A n c] 48) |>.alloc (.cells #[.int .i64 0, .int .i64 0, .slice none 0 0] 27))
  have hR := Lib.hid (Blk.new' (g := w.heap.size + 1) (w := w.alloc (.cells #[.int .i64 W, .int .i64 H, .slice A n c] 48)) (by simp) 27 #[.int .i64 0, .int .i64 0, .slice none 0 0])
  go_enter Try.func26, Try.ntmps26
  go_wp2_with fail
  refine (Check_any W H A n c _).mono ?_
  rintro e w1 ⟨rfl, hE1⟩
  obtain ⟨rc, rf, rl⟩ := (hR.out.ext hE1).rules
  replace hE1 := Lib.hid (hP.out.trans hE1)
  go_wp2_with fail
  refine bodyPost_ret (v := .tuple #[img 0 0 none 0 0, .int .i64 (chk W H n)]) (by simp [results, Try.results26, go_sem, *]) rfl ⟨rfl, ?_⟩
  exact ((hE1.out.setCell (by simp) _).setCell (by simp) _).setCell (by simp) _

theorem RPut_bad2 (W H : Int) (A : Option Addr) (n c : Nat) (dx dy : Int) (w : World) (hok : chk W H n = 0) (hs : shiftB dx dy = false) :
    Calls Try.prog 26 #[bmp W H A n c, .int .i64 dx, .int .i64 dy] w fun e w' => e = .returned (.tuple #[img 0 0 none 0 0, .int .i64 3]) ∧ Ext w w' := by
  have hne : (chk W H n != 0) = false := by simpa using hok
  replace hok := Lib.hid hok
  have hP := Lib.hid ((Ext.refl w).alloc (.cells #[.int .i64 W, .int .i64 H, .slice A n c] 48) |>.alloc (.cells #[.int .i64 0, .int .i64 0, .slice none 0 0] 27))
  have hR := Lib.hid (Blk.new' (g := w.heap.size + 1) (w := w.alloc (.cells #[.int .i64 W, .int .i64 H, .slice A n c] 48)) (by simp) 27 #[.int .i64 0, .int .i64 0, .slice none 0 0])
  replace hs := Lib.hid hs
  go_enter Try.func26, Try.ntmps26
  go_wp2_with fail
  refine (Check_any W H A n c _).mono ?_
  rintro e w1 ⟨rfl, hE1⟩
  obtain ⟨rc, rf, rl⟩ := (hR.out.ext hE1).rules
  replace hE1 := Lib.hid (hP.out.trans hE1)
  go_wp2_with fail
  refine (shift_any dx dy _).mono ?_
  rintro e w2 ⟨rfl, rfl⟩
  rw [hs.out]
  go_wp2_with fail
  refine bodyPost_ret (v := .tuple #[img 0 0 none 0 0, .int .i64 3]) (by simp [results, Try.results26, go_sem, *]) rfl ⟨rfl, ?_⟩
  exact ((hE1.out.setCell (by simp) _).setCell (by simp) _).setCell (by simp) _


set_option maxHeartbeats 1000000 in
set_option maxRecDepth 100000 in
theorem RPut_ok (Wn Hn : Nat) (A : Option Addr) (n c : Nat) (dot : Nat → Bool) (dx dy : Int) (w : World) (hok : chk Wn Hn n = 0) (hs : shiftB dx dy = true) (hA : Bools w A n dot) :
    Calls Try.prog 26 #[bmp Wn Hn A n c, .int .i64 dx, .int .i64 dy] w (PutOk Wn Hn dot dx dy w) := by
  have hpost : ∀ e w', (∃ A c, ∃ m : Nat, e = .returned (.tuple #[img ((Wn : Int) + 4) ((Hn : Int) + 4) A m c, .int .i64 0]) ∧ (m ≤ c ∧ (m : Int) = ((Wn : Int) + 4) * ((Hn : Int) + 4)) ∧ Mine w' w.heap.size A 3 m (fun k => .int .i64 (putF Wn Hn dot dx dy k)) ∧ Ext w w') → PutOk Wn Hn dot dx dy w e w' := fun _ _ h => h
  replace hpost := Lib.hid hpost
  obtain ⟨i0, hi, hz0, hz1, hz2⟩ := info_parts info_int
  have hne : (chk Wn Hn n != 0) = false := by simpa using hok
  have hk := okB hok
  obtain ⟨-, hw2, -, hh2, hn⟩ := hk
  have hs' := shiftB_iff.1 hs
  obtain ⟨hx1, hx2, hy1, hy2⟩ := hs'
  replace hok := Lib.hid hok
  replace hn := Lib.hid hn
  replace hs := Lib.hid hs
  have hE0 := Lib.hid (((Ext.refl w).alloc (.cells #[.int .i64 Wn, .int .i64 Hn, .slice A n c] 48)).alloc (.cells #[.int .i64 0, .int .i64 0, .slice none 0 0] 27))
  have hB0 := Lib.hid ((Blk.new w 48 #[.int .i64 Wn, .int .i64 Hn, .slice A n c]).alloc (.cells #[.int .i64 0, .int .i64 0, .slice none 0 0] 27))
  have hR0 := Lib.hid (Blk.new' (g := w.heap.size + 1) (w := w.alloc (.cells #[.int .i64 Wn, .int .i64 Hn, .slice A n c] 48)) (by simp) 27 #[.int .i64 0, .int .i64 0, .slice none 0 0])
  obtain ⟨G, hG⟩ : ∃ G : Nat → Value, (fun j => Value.int .i64 (putF Wn Hn dot dx dy j)) = G := ⟨_, rfl⟩
  rw [hG] at hpost
  replace hG := Lib.hid hG
  go_enter Try.func26, Try.ntmps26
  go_wp2_with fail
  refine (Check_any Wn Hn A n c _).mono ?_
  rintro e w1 ⟨rfl, hE1⟩
  have hB1 := hB0.out.ext hE1
  have hR1 := hR0.out.ext hE1
  have hws := hR1.lt
  replace hE1 := Lib.hid (hE0.out.trans hE1)
  obtain ⟨bc, bf, bl⟩ := hB1.rules
  replace hB1 := Lib.hid hB1
  replace hR1 := Lib.hid hR1
  go_wp2_with fail
  refine (shift_any dx dy _).mono ?_
  rintro e w2 ⟨rfl, rfl⟩
  rw [hs.out]
  go_wp2_with fail
  go_loopw [10] (fun i wr => ∃ y : Nat, y ≤ Hn + 4 ∧ i = .int .i64 y ∧ Blk wr w.heap.size 48 #[.int .i64 Wn, .int .i64 Hn, .slice A n c] ∧ Blk wr (w.heap.size + 1) 27 #[.int .i64 0, .int .i64 0, .slice none 0 0] ∧
      (∃ v, Blk wr w1.heap.size 27 #[.int .i64 ((Wn : Int) + 4), .int .i64 ((Hn : Int) + 4), v] ∧ wr.ownsRow (w1.heap.size + 1) 3 1 v (y * (Wn + 4)) ((List.range (y * (Wn + 4))).map G)) ∧ Ext w wr) (fun i _ => Hn + 4 - (intOf i).toNat)
  case atStart =>
    exact ⟨0, by omega, rfl, hB1.out.alloc _, hR1.out.alloc _, ⟨_, Blk.new _ _ _, by rw [Nat.zero_mul]; exact World.ownsRow_nil _ _ _ _⟩, hE1.out.alloc _⟩
  case round =>
    clear hB1 hR1 hE1 bc bf bl
    obtain ⟨y, hy, rfl, hB, hR, ⟨v, hT, hrow⟩, hE⟩ := hrel
    obtain ⟨tc, tf, tl⟩ := hT.rules
    by_cases hlt : y < Hn + 4
    · have hlt' : (y : Int) < (Hn : Int) + 4 := by omega
      have hyW : y * (Wn + 4) + (Wn + 4) ≤ 10000 := by
        have h1 : (y + 1) * (Wn + 4) ≤ 100 * 100 := Nat.mul_le_mul (by omega) (by omega)
        rw [Nat.add_mul] at h1; omega
      replace hB := Lib.hid hB
      replace hR := Lib.hid hR
      replace hT := Lib.hid hT
      replace hrow := Lib.hid hrow
      replace hE := Lib.hid hE
      go_wp2_with fail
      obtain ⟨w9, rfl⟩ : ∃ w9 : World, w9 = wr := ⟨_, rfl⟩
      go_loopw [11] (fun i wr => ∃ x : Nat, x ≤ Wn + 4 ∧ i = .int .i64 x ∧ Blk wr w.heap.size 48 #[.int .i64 Wn, .int .i64 Hn, .slice A n c] ∧ Blk wr (w.heap.size + 1) 27 #[.int .i64 0, .int .i64 0, .slice none 0 0] ∧
          (∃ v, Blk wr w1.heap.size 27 #[.int .i64 ((Wn : Int) + 4), .int .i64 ((Hn : Int) + 4), v] ∧ wr.ownsRow (w1.heap.size + 1) 3 1 v (y * (Wn + 4) + x) ((List.range (y * (Wn + 4) + x)).map G)) ∧ Ext w wr) (fun i _ => Wn + 4 - (intOf i).toNat)
      case atStart => exact ⟨0, by omega, rfl, hB.out, hR.out, ⟨v, hT.out, hrow.out⟩, hE.out⟩
      case round =>
        clear hB hR hT hrow hE tc tf tl
        obtain ⟨x, hx, rfl, hB, hR, ⟨v1, hT, hrow⟩, hE⟩ := hrel
        obtain ⟨tc, tf, tl⟩ := hT.rules
        obtain ⟨bc, bf, bl⟩ := hB.rules
        by_cases hxt : x < Wn + 4
        · have hxt' : (x : Int) < (Wn : Int) + 4 := by omega
          have hA1 := Lib.hid (hA.ext hE)
          replace hB := Lib.hid hB
          replace hR := Lib.hid hR
          replace hT := Lib.hid hT
          replace hrow := Lib.hid hrow
          replace hE := Lib.hid hE
          have hGx : G (y * (Wn + 4) + x) = .int .i64 (if hasB Wn Hn dot ((x : Int) - 2 - dx) ((y : Int) - 2 - dy) then 1 else 0) := by rw [← hG.out, ← putF_at hxt]
          replace hGx := Lib.hid hGx
          go_wp2_with fail
          refine (Get_any Wn Hn A n c dot ((x : Int) - 2 - dx) ((y : Int) - 2 - dy) wr hok.out hA1.out).mono ?_
          rintro e w5 ⟨rfl, hE5⟩
          have hB5 := Lib.hid (hB.out.ext hE5)
          have hR5 := Lib.hid (hR.out.ext hE5)
          have hT5 := hT.out.ext hE5
          have hrow5 := Lib.hid (own_ext hrow.out hE5)
          replace hE5 := Lib.hid (hE.out.trans hE5)
          clear hA1 hB hR hT hrow hE tc tf tl bc bf bl
          obtain ⟨tc, tf, tl⟩ := hT5.rules
          replace hT5 := Lib.hid hT5
          obtain ⟨hb, hhb⟩ : ∃ hb, hasB Wn Hn dot ((x : Int) - 2 - dx) ((y : Int) - 2 - dy) = hb := ⟨_, rfl⟩
          rw [hhb]
          have hGv : G (y * (Wn + 4) + x) = .int .i64 (if hb then 1 else 0) := by rw [← hhb]; exact hGx.out
          replace hGv := Lib.hid hGv
          clear hhb hGx
          cases hb
          · go_wp2_with (first
              | (at_builtin; refine wpList_app1 rfl (.tmp 54) (.tmp 56) 23 rfl i0 (.int .i64 0) 8 Try.underlying23 hi hz0 hz1 hz2 rfl rfl (own_ext hrow5.out ((Ext.refl w5).alloc _)) w5.heap.size (.int .i64 0) #[.int .i64 0] 3 rfl (Blk.new _ _ _) rfl rfl (by omega) (by omega) (by simp; omega) ?_))
            intro v' w6 hr2 hg2 hk2
            have hE6 := Lib.hid (hk2 w (by have := hE5.out.size; omega) (hE5.out.alloc _))
            have hg6 : Ext w5 w6 ∨ True := .inr trivial
            have hkp : ∀ k : Nat, ∀ t cs, k < w1.heap.size + 1 → Blk w5 k t cs → Blk w6 k t cs := fun k t cs hk hb => (hg2.block k (by have := hb.lt; simp; omega) (fun e => by
              have := hrow5.out.lt k e.symm; omega)).trans (hb.alloc _)
            have hT6 := hkp _ _ _ (by omega) hT5.out
            have hB6 := hkp _ _ _ (by omega) hB5.out
            have hR6 := hkp _ _ _ (by omega) hR5.out
            clear hg2 hk2 hkp tc tf tl hg6
            obtain ⟨tc, tf, tl⟩ := hT6.rules
            replace hT6 := Lib.hid hT6
            replace hB6 := Lib.hid hB6
            replace hR6 := Lib.hid hR6
            obtain ⟨gg, cap, rfl⟩ := row_succ hr2
            replace hr2 := Lib.hid hr2
            go_wp2_with fail
            exact ⟨⟨x + 1, by omega, by go_num, hB6.out.far (by simp; omega) _, hR6.out.far (by simp; omega) _, ⟨_, by simpa using hT6.out.set_ 2 _, by
              have h := own_set_ (p := ⟨w1.heap.size, 2, none⟩) hr2.out (by simp) (.slice (some ⟨gg, 0, none⟩) (y * (Wn + 4) + x + 1) cap)
              rw [show y * (Wn + 4) + (x + 1) = y * (Wn + 4) + x + 1 by omega, List.range_succ, List.map_append, List.map_cons, List.map_nil, hGv.out]
              exact h⟩, hE6.out.setCell (by simp; omega) _⟩, by simp only [intOf]; omega⟩
          · go_wp2_with (first
              | (at_builtin; refine wpList_app1 rfl (.tmp 54) (.tmp 56) 23 rfl i0 (.int .i64 0) 8 Try.underlying23 hi hz0 hz1 hz2 rfl rfl (own_ext hrow5.out ((Ext.refl w5).alloc _)) w5.heap.size (.int .i64 1) #[.int .i64 1] 3 rfl (Blk.new _ _ _) rfl rfl (by omega) (by omega) (by simp; omega) ?_))
            intro v' w6 hr2 hg2 hk2
            have hE6 := Lib.hid (hk2 w (by have := hE5.out.size; omega) (hE5.out.alloc _))
            have hg6 : Ext w5 w6 ∨ True := .inr trivial
            have hkp : ∀ k : Nat, ∀ t cs, k < w1.heap.size + 1 → Blk w5 k t cs → Blk w6 k t cs := fun k t cs hk hb => (hg2.block k (by have := hb.lt; simp; omega) (fun e => by
              have := hrow5.out.lt k e.symm; omega)).trans (hb.alloc _)
            have hT6 := hkp _ _ _ (by omega) hT5.out
            have hB6 := hkp _ _ _ (by omega) hB5.out
            have hR6 := hkp _ _ _ (by omega) hR5.out
            clear hg2 hk2 hkp tc tf tl hg6
            obtain ⟨tc, tf, tl⟩ := hT6.rules
            replace hT6 := Lib.hid hT6
            replace hB6 := Lib.hid hB6
            replace hR6 := Lib.hid hR6
            obtain ⟨gg, cap, rfl⟩ := row_succ hr2
            replace hr2 := Lib.hid hr2
            go_wp2_with fail
            exact ⟨⟨x + 1, by omega, by go_num, hB6.out.far (by simp; omega) _, hR6.out.far (by simp; omega) _, ⟨_, by simpa using hT6.out.set_ 2 _, by
              have h := own_set_ (p := ⟨w1.heap.size, 2, none⟩) hr2.out (by simp) (.slice (some ⟨gg, 0, none⟩) (y * (Wn + 4) + x + 1) cap)
              rw [show y * (Wn + 4) + (x + 1) = y * (Wn + 4) + x + 1 by omega, List.range_succ, List.map_append, List.map_cons, List.map_nil, hGv.out]
              exact h⟩, hE6.out.setCell (by simp; omega) _⟩, by simp only [intOf]; omega⟩
        · obtain rfl : x = Wn + 4 := by omega
          go_wp2_with fail
          exact ⟨⟨y + 1, by omega, by go_num, hB, hR, ⟨v1, hT, by rw [show (y + 1) * (Wn + 4) = y * (Wn + 4) + (Wn + 4) by rw [Nat.add_mul]; omega]; exact hrow⟩, hE⟩, by simp only [intOf]; omega⟩
    · obtain rfl : y = Hn + 4 := by omega
      obtain ⟨A', c', rfl, hcap, hM⟩ := Mine.of_row hrow (F := G) (fun k hk => row_get hk)
      have hfin := hpost.out (.returned (.tuple #[img ((Wn : Int) + 4) ((Hn : Int) + 4) A' ((Hn + 4) * (Wn + 4)) c', .int .i64 0])) (((wr.setCell ⟨w.heap.size + 1, 0, none⟩ (.int .i64 ((Wn : Int) + 4))).setCell ⟨w.heap.size + 1, 1, none⟩ (.int .i64 ((Hn : Int) + 4))).setCell ⟨w.heap.size + 1, 2, none⟩ (.slice A' ((Hn + 4) * (Wn + 4)) c'))
        ⟨A', c', _, rfl, ⟨hcap, by rw [Int.natCast_mul, Int.mul_comm, Int.natCast_add, Int.natCast_add]; rfl⟩, ((hM.set_ (p := ⟨w.heap.size + 1, 0, none⟩) (by simp; omega) _).set_ (p := ⟨w.heap.size + 1, 1, none⟩) (by simp; omega) _).set_ (p := ⟨w.heap.size + 1, 2, none⟩) (by simp; omega) _ |>.less (by omega),
          ((hE.setCell (by simp) _).setCell (by simp) _).setCell (by simp) _⟩
      replace hfin := Lib.hid hfin
      obtain ⟨rc, rf, rl'⟩ := hR.rules
      clear hpost hE hM hrow
      go_wp2_with fail
      exact bodyPost_ret (v := .tuple #[img ((Wn : Int) + 4) ((Hn : Int) + 4) A' ((Hn + 4) * (Wn + 4)) c', .int .i64 0]) (by simp [results, Try.results26, go_sem, *]) rfl hfin.out

theorem IPut_any (W H : Int) (A : Option Addr) (n c : Nat) (dot : Nat → Bool) (dx dy : Int) (w : World) (hA : Bools w A n dot) :
    Calls Try.prog 22 #[bmp W H A n c, .int .i64 dx, .int .i64 dy] w (PutPost W H n dot dx dy w) := by
  by_cases h : chk W H n = 0
  · have hk := okB h
    obtain ⟨Wn, rfl⟩ := Int.eq_ofNat_of_zero_le hk.1
    obtain ⟨Hn, rfl⟩ := Int.eq_ofNat_of_zero_le hk.2.2.1
    cases hs : shiftB dx dy
    · have he : putE Wn Hn n dx dy = 3 := by unfold putE; rw [if_pos h, hs]; rfl
      exact (IPut_bad2 Wn Hn A n c dx dy w h hs).mono fun e w' hp => .inl ⟨by rw [he]; omega, by rw [he]; exact hp.1, hp.2⟩
    · have he : putE Wn Hn n dx dy = 0 := by unfold putE; rw [if_pos h, hs]; rfl
      exact (IPut_ok Wn Hn A n c dot dx dy w h hs hA).mono fun e w' hp => .inr ⟨he, hp⟩
  · have he : putE W H n dx dy = chk W H n := by unfold putE; rw [if_neg h]
    exact (IPut_bad1 W H A n c dx dy w h).mono fun e w' hp => .inl ⟨by rw [he]; exact h, by rw [he]; exact hp.1, hp.2⟩
theorem RPut_any (W H : Int) (A : Option Addr) (n c : Nat) (dot : Nat → Bool) (dx dy : Int) (w : World) (hA : Bools w A n dot) :
    Calls Try.prog 26 #[bmp W H A n c, .int .i64 dx, .int .i64 dy] w (PutPost W H n dot dx dy w) := by
  by_cases h : chk W H n = 0
  · have hk := okB h
    obtain ⟨Wn, rfl⟩ := Int.eq_ofNat_of_zero_le hk.1
    obtain ⟨Hn, rfl⟩ := Int.eq_ofNat_of_zero_le hk.2.2.1
    cases hs : shiftB dx dy
    · have he : putE Wn Hn n dx dy = 3 := by unfold putE; rw [if_pos h, hs]; rfl
      exact (RPut_bad2 Wn Hn A n c dx dy w h hs).mono fun e w' hp => .inl ⟨by rw [he]; omega, by rw [he]; exact hp.1, hp.2⟩
    · have he : putE Wn Hn n dx dy = 0 := by unfold putE; rw [if_pos h, hs]; rfl
      exact (RPut_ok Wn Hn A n c dot dx dy w h hs hA).mono fun e w' hp => .inr ⟨he, hp⟩
  · have he : putE W H n dx dy = chk W H n := by unfold putE; rw [if_neg h]
    exact (RPut_bad1 W H A n c dx dy w h).mono fun e w' hp => .inl ⟨by rw [he]; exact h, by rw [he]; exact hp.1, hp.2⟩
end Go.Proofs.Ytcdnpnbjloaihaa
end
