/- Parts of the proof: AMem3, AMem5, AMem9, AOld, ASet, A23a, A23g, A23n, A24i. -/
import Derived.Test.YtijaioiojclooaaG06
import Derived.Test.YtijaioiojclooaaG05
import Derived.Great.BuildSlice
import Derived.Test.YtijaioiojclooaaG04
import Derived.Test.YtijaioiojclooaaG03
import Derived.RangeFuncLeaves
import Derived.RangeFuncRecord
import Derived.Test.YtijaioiojclooaaG02
import Derived.Test.YtijaioiojclooaaG01
import Derived.Deep.AppendLies
import Derived.OrdersIn
import Derived.TacticsIn
import Derived.RangeFuncCalls
import Derived.Maps.AppendAt
import Derived.OwnWalk
import Derived.StillTail
import Derived.Below
import Derived.Deep.Draws
import Derived.WalkKit
import Derived.KernelRfl
import Derived.Test.YtijaioiojclooaaG07
import Derived.Test.YtijaioiojclooaaG08
import Derived.Laws.StructEq
import Derived.Test.YtijaioiojclooaaG11
import Derived.Test.YtijaioiojclooaaG10
import Derived.Test.YtijaioiojclooaaProg
import Derived.Lib.Hide
import Derived.Deep.QuietTactic
import Derived.BigQuiet
import Derived.Deep.DrawnRows
import Derived.Test.YtijaioiojclooaaG17
import Derived.Laws.Cover3
import Derived.Test.YtijaioiojclooaaG15
import Derived.Test.YtijaioiojclooaaG16
import Derived.Test.YtijaioiojclooaaG18
import Derived.Test.YtijaioiojclooaaG14
import Derived.Test.YtijaioiojclooaaG13
import Derived.Test.YtijaioiojclooaaG12
import Derived.Test.YtijaioiojclooaaG09
import Derived.Shelf.Abstract
import Derived.RangeFuncNested
set_option linter.unusedSimpArgs false
set_option linter.unusedVariables false
section
namespace Go.AV
open Go Go.RowKit Go.Flow
section
variable {P : Program} {tab : List (TypeId × TD)}
section ops
variable {ops : Array Oper} {rest : List Oper} {acc : List (List Nat × List Nat)} {S : St} {Q : List (List Nat × List Nat) → St → Prop} {dst : Option Tmp} {ty : TypeId} {pos : String} {after : Array Edge} {guard : Option (Nat × Bool)}
/-- An empty literal. -/
theorem AList.emptySl (T : tabOk P tab = true) {id : Nat} {t el : TypeId} {d e : TD} {parts : Array (Nat × Operand)} (hw : S.wants ops { dst := some id, op := .buildSlice t 0 parts, type := ty, pos, after, guard } = some true) (hd : dOk S.n (some id) = true) (hf : S.fr id = true)
    (ht : assoc tab t = some d) (hk : d.k = .sl el) (he : assoc tab el = some e) (hp : parts = #[])
    (hn : AList P ops rest (([id], [id, id]) :: acc) (S.eff (some id) ⟨.c (.ow id), [(id, some ⟨true, 0, e.size, el, zF e.zero⟩)], [id]⟩) Q) : AList P ops ({ dst := some id, op := .buildSlice t 0 parts, type := ty, pos, after, guard } :: rest) acc S Q :=
  AList.new (B := ⟨true, 0, e.size, el, zF e.zero⟩) [] hw hd hf (fun S1 h1 _ b0 σ a w R => by
    obtain ⟨inf, z, u, i1, i2, i3, i4, i5, i6, -⟩ := ty_info T he
    subst hp
    refine ⟨.slice (some ⟨w.heap.size, 0, none⟩) 0 0, 0, #[], ?_, .inl ⟨rfl, rfl, Nat.le_refl _, by simp [maxLen]⟩, by simp, fun k hk => absurd hk (Nat.not_lt_zero _), fun σ' O' w' h => rep_ow h⟩
    simp [execOp, Instr.buildSlice, run_underlying (ty_sl T ht hk), sizeOf, typeInfo, i1, Instr.fill, newRow]
    rw [show Array.map (fun _ => default) (Array.range 0) = (#[] : Array Value) from Array.ext' (by simp)]) hn

end ops
end
end Go.AV
end

section
namespace Go.AV
open Go Go.RowKit Go.Flow
section
variable {P : Program} {tab : List (TypeId × TD)}
section ops
variable {ops : Array Oper} {rest : List Oper} {acc : List (List Nat × List Nat)} {S : St} {Q : List (List Nat × List Nat) → St → Prop} {dst : Option Tmp} {ty : TypeId} {pos : String} {after : Array Edge} {guard : Option (Nat × Bool)}
variable {x y : Operand} {xt yt : TypeId} {i j : Int}
/-- A list appended to an empty own row. -/
theorem AList.appL0 (T : tabOk P tab = true) {id id1 : Nat} {s : Operand} {t el : TypeId} {d e : TD} {m : Nat} {F G : Nat → Nat → CV}
    (hw : S.wants ops { dst := some id, op := .call { callee := .builtin .append, args := #[s, x], argTypes := #[t, t] }, type := ty, pos, after, guard } = some true) (hd : dOk S.n (some id) = true) (hf : S.fr id = true)
    (hs : S.opd s = some (.c (.ow id1))) (hx : S.opd x = some (.c (.ls m e.size G))) (ht : assoc tab t = some d) (hk : d.k = .sl el) (he : assoc tab el = some e) (hh : S.h id1 = some ⟨true, 0, e.size, el, F⟩) (hsz : (Nat.blt 0 e.size && Nat.blt id1 1000) = true)
    (h63 : m ≤ 4611686018427387904) (hb : m * e.bytes ≤ 140737488355328)
    (hn : AList P ops rest (([id1, id], [id1, id, id]) :: acc) (S.eff (some id) ⟨.c (.ow id), [(id1, none), (id, some ⟨true, m, e.size, el, G⟩)], [id]⟩) Q) :
    AList P ops ({ dst := some id, op := .call { callee := .builtin .append, args := #[s, x], argTypes := #[t, t] }, type := ty, pos, after, guard } :: rest) acc S Q :=
  AList.appL T hw hd hf hs hx ht hk he hh hsz (by omega) (by rw [Nat.zero_add]; exact hb) (by rw [Nat.zero_add]; exact hn)
end ops
section code
variable {next : St → Prop} {Q : Exit → St → Prop} {S : St} {id k : Nat}
theorem LeC.lz {h : Nat → Option AB} {ren : List (Nat × Option Nat)} {n n' sz : Nat} {F G : Nat → Nat → CV} (hn : n' = n) (hc : ∀ k, k < n → ∀ j, j < sz → F k j = G k j) : LeC h ren (.ls n sz F) (.ls n' sz G) := by
  subst hn
  exact .ls n' sz F G hc
end code
end
end Go.AV
end

section
namespace Go.AV
open Go Go.RowKit Go.Flow
section
variable {P : Program}
def RetE (P : Program) (rs : List ResultVar) (R : AV → Prop) (e : Exit) (S : St) : Prop := ∃ r, R r ∧ RetOk P rs r [] e S
theorem ecalls_at {f : FuncId} {fn : Func} {c : Code} {rs : List ResultVar} {args : List V1} {R : AV → Prop} {n : Nat} (hf : P.funcs[f]? = some fn) (hb : fn.body = some c) (hr : fn.results = rs.toArray) (hn : fn.ntmps = n) (hl : Nat.ble args.length n = true)
    (h : AWp P c (RetE P rs R) (entry n args)) : ECalls P f args R := fun O w vals hO hv => by
  subst hn
  let b0 : Base := ⟨w, O, fun _ => False, fun _ => none, hO, fun b hb => hb.elim, fun b _ h => h, fun i v h => (by cases h), fun _ _ => False, fun _ _ _ => True, none, fun _ _ h => h.elim, fun _ _ _ _ _ _ _ _ => trivial⟩
  have hl' := hv.length
  have hO' : ∀ b, out b0 (fun _ => none) (assoc []) b → O b := fun b hb => hb.elim (fun ⟨i, v, h1, _⟩ => absurd rfl h1) fun h => h
  refine calls_of_awp (b0 := b0) hf hb rfl h ⟨fun _ => none, trivial, ?_, ⟨rfl, rfl, rfl, Nat.le_refl _, fun _ _ _ => rfl⟩, ⟨fun id B hB => (by cases hB), fun i j v1 v2 b hi => absurd rfl hi, fun b ⟨i, v, hi, _⟩ => absurd rfl hi, fun i v hi => (by cases hi), fun _ _ _ => rfl⟩, fun t x hx => ?_, fun id hid => ⟨rfl, Nat.blt_eq.mp hid⟩, fun i v hi => (by cases hi), rfl, trivial⟩ (fun e S hQ => by cases e <;> first | exact .inl rfl | exact .inr rfl | (obtain ⟨_, _, hQ⟩ := hQ; exact hQ.elim)) fun e a w' S0 hR0 hQ0 hd0 => ?_
  · have := Nat.ble_eq.mp hl
    simp [entryL, hl']; omega
  · obtain ⟨y, e1, rfl⟩ : ∃ y, args[t]? = some y ∧ y.av = x := by simpa [entryL, Option.map_eq_some_iff] using hx
    obtain ⟨v, e2, e3⟩ := hv.get e1
    have ht : (vals.toArray ++ Array.replicate (fn.ntmps - vals.toArray.size) undef).getD t undef = v := by
      have hlt := (List.getElem?_eq_some_iff.1 e2).1
      have := (List.getElem?_eq_some_iff.1 e2).2
      simp [Array.getD_eq_getD_getElem?, Array.getElem?_append, hlt, this]
    rw [ht]
    exact (e3.keep ⟨rfl, rfl, rfl, Nat.le_refl _, fun _ _ _ => rfl⟩ (fun b hb => .inl (hO' b hb)) fun _ _ h => h).av
  · have fin : ∀ S r, R r → Rel b0 S a w' → (∃ S' loc, Wk S S' ∧ S'.h = assoc (loc ++ []) ∧ loc.all (fun p => Nat.blt p.1 1000) = true ∧ ARets P S' rs r) → ∃ v, (results fn a.tmps).run P w' = .ok v w' ∧ ∃ v' r, Ending.returned v = .returned v' ∧ R r ∧ RepA (fun _ => none) O w' r v' ∧ Ext w w' := fun S r hr1 hR ⟨S', loc, hw, hS', hlc, hS⟩ => by
      obtain ⟨σ, Rr⟩ := hw b0 a w' hR
      obtain ⟨v, h1, h2⟩ := hS.run hr Rr
      have hH0 := Rr.hp
      rw [hS'] at hH0 h2
      obtain ⟨hH', hsub⟩ := hH0.lent hlc rfl
      replace h2 := h2.keep (σ' := fun _ => none) ⟨rfl, rfl, rfl, Nat.le_refl _, fun _ _ _ => rfl⟩ (fun b (hb : O b) => .inl (.inr hb)) fun _ _ h => h
      exact ⟨v, h1, v, r, rfl, hr1, h2, Rr.ext.os, Rr.ext.tape, Rr.ext.output, Rr.ext.size, fun k hk => Rr.ext.block k hk fun h => h.elim (fun h => h) fun h => h⟩
    obtain ⟨r, hr1, hQ⟩ := hQ0
    cases e with
    | ret => exact fin S0 r hr1 hR0 hQ
    | normal => exact fin S0 r hr1 hR0 hQ
    | _ => exact hQ.elim
section ops
variable {ops : Array Oper} {rest : List Oper} {acc : List (List Nat × List Nat)} {S : St} {Q : List (List Nat × List Nat) → St → Prop} {dst : Option Tmp} {ty xt yt : TypeId} {pos : String} {after : Array Edge} {guard : Option (Nat × Bool)} {x y : Operand} {tab : List (TypeId × TD)}
end ops
section rows
variable {α : Type} {c : α → List CV} {z : α} {sz : Nat}
end rows
end
end Go.AV
end

section
namespace Go.AV
open Go Go.RowKit Go.Flow
section
variable {P : Program}
variable {σ : Nat → Option Value} {O : Nat → Prop} {w : World} {u : Value} {n : Nat}
end
end Go.AV
namespace Go.Proofs.Ytijaioiojclooaa
open Go.RowKit Go.Flow Go.AV
theorem args3 {R : V1 → Value → Prop} {a b c : V1} {vals : List Value} (h : RepL R [a, b, c] vals) : ∃ x y z, vals = [x, y, z] ∧ R a x ∧ R b y ∧ R c z := by
  match vals, h with
  | [x, y, z], ⟨h1, h2, h3, _⟩ => exact ⟨x, y, z, rfl, h1, h2, h3⟩
end Go.Proofs.Ytijaioiojclooaa
end

section
namespace Go.AV
open Go Go.RowKit Go.Flow
theorem leL_imm {h : Nat → Option AB} {ren : List (Nat × Option Nat)} : ∀ {l : List CV}, l.all immC = true → LeL (LeC h ren) l l
  | [], _ => trivial
  | x :: l, hl => by
    simp only [List.all_cons, Bool.and_eq_true] at hl
    exact ⟨LeC.refl _ hl.1, leL_imm hl.2⟩
end Go.AV
end

section
namespace Go.Proofs.Ytijaioiojclooaa
open Go.RowKit Go.Flow Go.AV Go.Plain
theorem rlim1_A (n m : Int) : ACalls Try.prog 84 [.c (iC n), .c (iC m)] (.c (iC (lim1 n m))) := by
  refine acalls_at Try.func84 rfl rfl Try.ntmps84 rfl ?_
  repeat (first
    | refine AWp.seq ?_
    | refine thenA_n ?_
    | refine AWp.ret ?_
    | (refine AWp.region (id := 0) ?_; refine AList.assign rfl rfl rfl ?_; refine AList.nil ?_)
    | (refine AWp.region (id := 1) ?_; refine AList.move rfl rfl rfl ?_; refine AList.move rfl rfl rfl ?_; refine AList.minI rfl rfl rfl rfl ?_; refine AList.maxI rfl rfl rfl rfl ?_; refine AList.assign rfl rfl rfl ?_; refine AList.nil ?_))
  refine ⟨mkSt 9 [(4, .c (iC (lim1 n m)))] [] [], [], Wk.mk [] rfl rfl rfl ?_ trivial, rfl, rfl, ARets.one (x := .c _) (ARes.tmp rfl rfl)⟩
  repeat (first | exact trivial | refine ⟨⟨_, rfl, by first | exact LeA.c (LeC.refl _ rfl) | exact LeA.c (LeC.ow _ _ rfl) | exact LeA.c (LeC.pt _ _ _ _ _ rfl) | exact LeA.c (LeC.nil _ rfl) | exact LeA.c (LeC.nils _ _) | (refine LeA.int ?_; omega) | (refine LeA.int ?_; dsimp only; omega) | exact LeA.c (LeC.fz rfl rfl (by first | rfl | omega) (fun i _ j _ => ⟨rfl, by first | rfl | exact rowN_imm (fun _ => rfl) _ i j | exact rowF_imm (fun _ => rfl) _ i j⟩))⟩, ?_⟩)
set_option maxRecDepth 100000 in
theorem rlim_A (x : Bg) : ACalls Try.prog 59 [.ag (bgC x)] (.ag (bgC (lim4 x))) := by
  refine acalls_at Try.func59 rfl rfl Try.ntmps59 rfl ?_
  repeat (first
    | refine AWp.seq ?_
    | refine thenA_n ?_
    | refine AWp.ret ?_
    | (refine AWp.region (id := 0) ?_; refine AList.box rfl rfl rfl rfl rfl ?_; refine AList.alloc tyOk rfl rfl rfl rfl rfl ?_; refine AList.nil ?_)
    | (refine AWp.draw (id := 1) mixed ?_; refine AList.fieldPt tyOk rfl rfl rfl rfl rfl rfl rfl ?_; refine AList.load1 tyOk rfl rfl rfl rfl rfl rfl rfl oM oM ?_; refine AList.call rfl rfl rfl rfl Try.func84 rfl (by kernel_rfl) (rlim1_A _ _) ?_; refine AList.fieldPt tyOk rfl rfl rfl rfl rfl rfl rfl ?_; refine AList.load1 tyOk rfl rfl rfl rfl rfl rfl rfl oM oM ?_; refine AList.call rfl rfl rfl rfl Try.func84 rfl (by kernel_rfl) (rlim1_A _ _) ?_; refine AList.fieldPt tyOk rfl rfl rfl rfl rfl rfl rfl ?_; refine AList.load1 tyOk rfl rfl rfl rfl rfl rfl rfl oM oM ?_; refine AList.call rfl rfl rfl rfl Try.func84 rfl (by kernel_rfl) (rlim1_A _ _) ?_; refine AList.fieldPt tyOk rfl rfl rfl rfl rfl rfl rfl ?_; refine AList.load1 tyOk rfl rfl rfl rfl rfl rfl rfl oM oM ?_; refine AList.call rfl rfl rfl rfl Try.func84 rfl (by kernel_rfl) (rlim1_A _ _) ?_; refine AList.buildSt tyOk rfl rfl rfl rfl rfl rfl rfl rfl ?_; refine AList.store tyOk rfl rfl rfl rfl rfl rfl rfl rfl oM oM ?_; refine AList.nil ⟨by kernel_rfl, ?_⟩))
  refine ⟨mkSt 16 [(2, .c (.pt 2 4 0 0))] [(2, ⟨false, 1, 4, 29, lF (bgC (lim4 x))⟩)] [2], [(2, ⟨false, 1, 4, 29, lF (bgC (lim4 x))⟩)], Wk.mk [(2, some 2)] rfl rfl rfl ?_ ?_, rfl, rfl, ARets.one (x := .ag _) (ARes.box tyOk rfl rfl rfl rfl rfl rfl rfl)⟩
  · repeat (first | exact trivial | refine ⟨⟨_, rfl, by first | exact LeA.c (LeC.refl _ rfl) | exact LeA.c (LeC.ow _ _ rfl) | exact LeA.c (LeC.pt _ _ _ _ _ rfl) | exact LeA.c (LeC.nil _ rfl) | exact LeA.c (LeC.nils _ _) | (refine LeA.int ?_; omega) | (refine LeA.int ?_; dsimp only; omega) | exact LeA.c (LeC.fz rfl rfl (by first | rfl | omega) (fun i _ j _ => ⟨rfl, by first | rfl | exact rowN_imm (fun _ => rfl) _ i j | exact rowF_imm (fun _ => rfl) _ i j⟩))⟩, ?_⟩)
  · repeat (first | exact trivial | refine ⟨by first | exact HeapOk.same rfl rfl rfl rfl | exact HeapOk.lent rfl rfl rfl rfl | exact HeapOk.nil rfl rfl | exact HeapOk.row rfl rfl (by first | rfl | omega) (fun i _ j _ => ⟨rfl, by first | rfl | exact rowN_imm (fun _ => rfl) _ i j | exact rowF_imm (fun _ => rfl) _ i j⟩) | exact HeapOk.box rfl rfl (by repeat (first | exact trivial | refine ⟨by first | exact LeC.refl _ rfl | exact LeC.ow _ _ rfl | exact LeC.nil _ rfl | exact LeC.nils _ _ | exact LeC.fz rfl rfl (by first | rfl | omega) (fun i _ j _ => ⟨rfl, by first | rfl | exact rowN_imm (fun _ => rfl) _ i j | exact rowF_imm (fun _ => rfl) _ i j⟩) | exact LeC.int (by omega), ?_⟩)) rfl, ?_⟩)
end Go.Proofs.Ytijaioiojclooaa
end

section
namespace Go.Proofs.Ytijaioiojclooaa
open Go.RowKit Go.Flow Go.AV Go.Plain
theorem rbCheck_A (W H : Int) (n : Nat) (dot : Nat → Bool) : ACalls Try.prog 51 [.ag (bmpV W H n dot)] (.c (iC (chk W H n))) :=
  ACalls.old rfl fun O w vals h => by
    obtain ⟨x, rfl, h1⟩ := args1 h
    obtain ⟨A, c, rfl, -, hA⟩ := rep_bmp h1
    exact Check_any W H A n c w
theorem Get_A (W H : Int) (n : Nat) (dot : Nat → Bool) (x y : Int) (hok : chk W H n = 0) : ACalls Try.prog 55 [.ag (bmpV W H n dot), .c (iC x), .c (iC y)] (.c (bC (hasB W H dot x y))) :=
  ACalls.old rfl fun O w vals h => by
    obtain ⟨b, x1, y1, rfl, h1, h2, h3⟩ := args3 h
    obtain ⟨A, c, rfl, -, hA⟩ := rep_bmp h1
    cases rep_c h2
    cases rep_c h3
    exact Get_any W H A n c dot x y w hok hA
end Go.Proofs.Ytijaioiojclooaa
end

section
namespace Go.Proofs.Ytijaioiojclooaa
open Go.RowKit Go.Flow Go.AV Go.Plain
set_option maxHeartbeats 1000000 in
set_option maxRecDepth 100000 in
theorem Shifts_A (m : Nat) (hm : m ≤ 4) : ACalls Try.prog 42 [.c (iC m)] (.c (.ls (shL m).length 2 (rowF mvC mvZ (shL m)))) := by
  refine acalls_at Try.func42 rfl rfl Try.ntmps42 rfl ?_
  repeat (first
    | refine AWp.seq ?_
    | refine thenA_n ?_
    | refine AWp.block ?_
    | (refine AWp.region (id := 0) ?_; refine AList.assign rfl rfl rfl ?_; refine AList.nil ?_)
    | (refine AWp.region (id := 1) ?_; refine AList.assign rfl rfl rfl ?_; refine AList.nil ?_)
    | (refine AWp.region (id := 2) ?_; refine AList.assign rfl rfl rfl ?_; refine AList.nil ?_))
  refine AWp.round (fun t : Nat × List (Int × Int) => mkSt 45 [(0, .c (iC m)), (3, .c (.ow 20)), (4, .c (iC t.1))] [(20, ⟨true, t.2.length, 2, 48, rowF mvC mvZ t.2⟩)] [20])
    (fun t => t.1 ≤ 2 * m + 1 ∧ t.2 = shS m t.1 ∧ t.2.length ≤ 81 * t.1) (fun t => 2 * m + 1 - t.1) (0, []) ⟨Nat.zero_le _, rfl, Nat.zero_le _⟩ ?_ (fun t ht => ?_)
  · refine Wk.mk [(20, none)] rfl rfl rfl ?_ ?_
    · repeat (first | exact trivial | refine ⟨⟨_, rfl, by first | exact LeA.c (LeC.refl _ rfl) | exact LeA.c (LeC.ow _ _ rfl) | exact LeA.c (LeC.pt _ _ _ _ _ rfl) | exact LeA.c (LeC.nil _ rfl) | exact LeA.c (LeC.nils _ _) | (refine LeA.int ?_; omega) | (refine LeA.int ?_; dsimp only; omega) | exact LeA.c (LeC.fz rfl rfl (by first | rfl | omega) (fun i _ j _ => ⟨rfl, by first | rfl | exact rowN_imm (fun _ => rfl) _ i j | exact rowF_imm (fun _ => rfl) _ i j⟩))⟩, ?_⟩)
    · repeat (first | exact trivial | refine ⟨by first | exact HeapOk.same rfl rfl rfl rfl | exact HeapOk.lent rfl rfl rfl rfl | exact HeapOk.nil rfl rfl | exact HeapOk.row rfl rfl (by first | rfl | omega) (fun i _ j _ => ⟨rfl, by first | rfl | exact rowN_imm (fun _ => rfl) _ i j | exact rowF_imm (fun _ => rfl) _ i j⟩) | exact HeapOk.box rfl rfl (by repeat (first | exact trivial | refine ⟨by first | exact LeC.refl _ rfl | exact LeC.ow _ _ rfl | exact LeC.nil _ rfl | exact LeC.nils _ _ | exact LeC.fz rfl rfl (by first | rfl | omega) (fun i _ j _ => ⟨rfl, by first | rfl | exact rowN_imm (fun _ => rfl) _ i j | exact rowF_imm (fun _ => rfl) _ i j⟩) | exact LeC.int (by omega), ?_⟩)) rfl, ?_⟩)
  · obtain ⟨s, L⟩ := t
    obtain ⟨hs, hL, hl⟩ := ht
    dsimp only at hs hL hl
    dsimp only
    by_cases hlts : s < 2 * m + 1
    · repeat (first
        | refine AWp.seq ?_
        | refine thenA_n ?_
        | refine AWp.block ?_
        | refine AWp.skip ?_
        | refine AWp.condT rfl (by first | rfl | assumption | exact cmT) ?_
        | (refine AWp.region (id := 3) ?_; refine AList.move rfl rfl rfl ?_; refine AList.move rfl rfl rfl ?_; refine AList.mul rfl rfl rfl rfl (by omega) (by omega) ?_; refine AList.cmpT rfl rfl rfl rfl rfl cmT ?_; refine AList.nil ?_)
        | (refine AWp.region (id := 5) ?_; refine AList.move rfl rfl rfl ?_; refine AList.neg rfl rfl rfl (by omega) (by omega) ?_; refine AList.assign rfl rfl rfl ?_; refine AList.nil ?_))
      refine AWp.round (fun t : Nat × List (Int × Int) => mkSt 45 [(0, .c (iC m)), (3, .c (.ow 20)), (4, .c (iC s)), (5, .c (iC ((t.1 : Int) - m)))] [(20, ⟨true, t.2.length, 2, 48, rowF mvC mvZ t.2⟩)] [20])
        (fun t => t.1 ≤ 2 * m + 1 ∧ t.2 = shS m s ++ shM m s t.1 ∧ t.2.length ≤ 81 * s + 9 * t.1) (fun t => 2 * m + 1 - t.1) (0, L) ⟨Nat.zero_le _, by rw [hL]; exact (List.append_nil _).symm, by dsimp only; omega⟩ ?_ (fun t ht => ?_)
      · refine Wk.mk [(20, some 20)] rfl rfl rfl ?_ ?_
        · repeat (first | exact trivial | refine ⟨⟨_, rfl, by first | exact LeA.c (LeC.refl _ rfl) | exact LeA.c (LeC.ow _ _ rfl) | exact LeA.c (LeC.pt _ _ _ _ _ rfl) | exact LeA.c (LeC.nil _ rfl) | exact LeA.c (LeC.nils _ _) | (refine LeA.int ?_; omega) | (refine LeA.int ?_; dsimp only; omega) | exact LeA.c (LeC.fz rfl rfl (by first | rfl | omega) (fun i _ j _ => ⟨rfl, by first | rfl | exact rowN_imm (fun _ => rfl) _ i j | exact rowF_imm (fun _ => rfl) _ i j⟩))⟩, ?_⟩)
        · repeat (first | exact trivial | refine ⟨by first | exact HeapOk.same rfl rfl rfl rfl | exact HeapOk.lent rfl rfl rfl rfl | exact HeapOk.nil rfl rfl | exact HeapOk.row rfl rfl (by first | rfl | omega) (fun i _ j _ => ⟨rfl, by first | rfl | exact rowN_imm (fun _ => rfl) _ i j | exact rowF_imm (fun _ => rfl) _ i j⟩) | exact HeapOk.box rfl rfl (by repeat (first | exact trivial | refine ⟨by first | exact LeC.refl _ rfl | exact LeC.ow _ _ rfl | exact LeC.nil _ rfl | exact LeC.nils _ _ | exact LeC.fz rfl rfl (by first | rfl | omega) (fun i _ j _ => ⟨rfl, by first | rfl | exact rowN_imm (fun _ => rfl) _ i j | exact rowF_imm (fun _ => rfl) _ i j⟩) | exact LeC.int (by omega), ?_⟩)) rfl, ?_⟩)
      · obtain ⟨i, L2⟩ := t
        obtain ⟨hi, hL2, hl2⟩ := ht
        dsimp only at hi hL2 hl2
        dsimp only
        by_cases hlti : i < 2 * m + 1
        · repeat (first
            | refine AWp.seq ?_
            | refine thenA_n ?_
            | refine AWp.block ?_
            | refine AWp.skip ?_
            | refine AWp.condT rfl (by first | rfl | assumption | exact cmT) ?_
            | (refine AWp.region (id := 6) ?_; refine AList.move rfl rfl rfl ?_; refine AList.move rfl rfl rfl ?_; refine AList.cmpT rfl rfl rfl rfl rfl cmT ?_; refine AList.nil ?_)
            | (refine AWp.region (id := 8) ?_; refine AList.move rfl rfl rfl ?_; refine AList.neg rfl rfl rfl (by omega) (by omega) ?_; refine AList.assign rfl rfl rfl ?_; refine AList.nil ?_))
          refine AWp.round (fun t : Nat × List (Int × Int) => mkSt 45 [(0, .c (iC m)), (3, .c (.ow 20)), (4, .c (iC s)), (5, .c (iC ((i : Int) - m))), (6, .c (iC ((t.1 : Int) - m)))] [(20, ⟨true, t.2.length, 2, 48, rowF mvC mvZ t.2⟩)] [20])
            (fun t => t.1 ≤ 2 * m + 1 ∧ t.2 = (shS m s ++ shM m s i) ++ shJ m s i t.1 ∧ t.2.length ≤ 81 * s + 9 * i + t.1) (fun t => 2 * m + 1 - t.1) (0, L2) ⟨Nat.zero_le _, by rw [hL2]; exact (List.append_nil _).symm, by dsimp only; omega⟩ ?_ (fun t ht => ?_)
          · refine Wk.mk [(20, some 20)] rfl rfl rfl ?_ ?_
            · repeat (first | exact trivial | refine ⟨⟨_, rfl, by first | exact LeA.c (LeC.refl _ rfl) | exact LeA.c (LeC.ow _ _ rfl) | exact LeA.c (LeC.pt _ _ _ _ _ rfl) | exact LeA.c (LeC.nil _ rfl) | exact LeA.c (LeC.nils _ _) | (refine LeA.int ?_; omega) | (refine LeA.int ?_; dsimp only; omega) | exact LeA.c (LeC.fz rfl rfl (by first | rfl | omega) (fun i _ j _ => ⟨rfl, by first | rfl | exact rowN_imm (fun _ => rfl) _ i j | exact rowF_imm (fun _ => rfl) _ i j⟩))⟩, ?_⟩)
            · repeat (first | exact trivial | refine ⟨by first | exact HeapOk.same rfl rfl rfl rfl | exact HeapOk.lent rfl rfl rfl rfl | exact HeapOk.nil rfl rfl | exact HeapOk.row rfl rfl (by first | rfl | omega) (fun i _ j _ => ⟨rfl, by first | rfl | exact rowN_imm (fun _ => rfl) _ i j | exact rowF_imm (fun _ => rfl) _ i j⟩) | exact HeapOk.box rfl rfl (by repeat (first | exact trivial | refine ⟨by first | exact LeC.refl _ rfl | exact LeC.ow _ _ rfl | exact LeC.nil _ rfl | exact LeC.nils _ _ | exact LeC.fz rfl rfl (by first | rfl | omega) (fun i _ j _ => ⟨rfl, by first | rfl | exact rowN_imm (fun _ => rfl) _ i j | exact rowF_imm (fun _ => rfl) _ i j⟩) | exact LeC.int (by omega), ?_⟩)) rfl, ?_⟩)
          · obtain ⟨j, L3⟩ := t
            obtain ⟨hj, hL3, hl3⟩ := ht
            dsimp only at hj hL3 hl3
            dsimp only
            by_cases hltj : j < 2 * m + 1
            · have hsu : shJ m s i (j + 1) = shJ m s i j ++ if shB m s i j then [((j : Int) - m, (i : Int) - m)] else [] := flat_succ _ _
              by_cases hb : max ((j : Int) - m) (-((j : Int) - m)) + max ((i : Int) - m) (-((i : Int) - m)) = (s : Int)
              · rw [show shB m s i j = true from decide_eq_true hb, if_pos rfl] at hsu
                have hlen : (L3 ++ [((j : Int) - m, (i : Int) - m)]).length = L3.length + 1 := by simp
                repeat (first
                  | refine AWp.seq ?_
                  | refine thenA_n ?_
                  | refine AWp.block ?_
                  | refine AWp.skip ?_
                  | refine inBlk_n ?_
                  | refine AWp.condT rfl (by first | rfl | assumption | exact cmT) ?_
                  | (refine AWp.region (id := 9) ?_; refine AList.move rfl rfl rfl ?_; refine AList.move rfl rfl rfl ?_; refine AList.cmpT rfl rfl rfl rfl rfl cmT ?_; refine AList.nil ?_)
                  | (refine AWp.region (id := 10) ?_; refine AList.move rfl rfl rfl ?_; refine AList.add rfl rfl rfl rfl (by omega) (by omega) ?_; refine AList.assign rfl rfl rfl ?_; refine AList.nil ?_)
                  | (refine AWp.region (id := 11) ?_; refine AList.move rfl rfl rfl ?_; refine AList.move rfl rfl rfl ?_; refine AList.neg rfl rfl rfl (by omega) (by omega) ?_; refine AList.maxI rfl rfl rfl rfl ?_; refine AList.move rfl rfl rfl ?_; refine AList.move rfl rfl rfl ?_; refine AList.neg rfl rfl rfl (by omega) (by omega) ?_; refine AList.maxI rfl rfl rfl rfl ?_; refine AList.add rfl rfl rfl rfl (by omega) (by omega) ?_; refine AList.move rfl rfl rfl ?_; refine AList.cmpT rfl rfl rfl rfl rfl cmT ?_; refine AList.nil ?_)
                  | (refine AWp.region (id := 12) ?_; refine AList.move rfl rfl rfl ?_; refine AList.move rfl rfl rfl ?_; refine AList.move rfl rfl rfl ?_; refine AList.buildSt tyOk rfl rfl rfl rfl rfl rfl rfl rfl ?_; refine AList.litSl tyOk rfl rfl rfl rfl rfl rfl rfl rfl rfl rfl rfl ?_; refine AList.appL tyOk rfl rfl rfl rfl rfl rfl rfl rfl rfl rfl oM oM ?_; refine AList.assign rfl rfl rfl ?_; refine AList.nil ?_))
                refine ⟨(j + 1, L3 ++ [((j : Int) - m, (i : Int) - m)]), ⟨by dsimp only; omega, by rw [hL3, hsu, List.append_assoc], by rw [hlen]; omega⟩, Wk.mk [(20, some 43)] rfl rfl rfl ?_ ?_, by dsimp only; omega⟩
                · repeat (first | exact trivial | refine ⟨⟨_, rfl, by first | exact LeA.c (LeC.refl _ rfl) | exact LeA.c (LeC.ow _ _ rfl) | exact LeA.c (LeC.pt _ _ _ _ _ rfl) | exact LeA.c (LeC.nil _ rfl) | exact LeA.c (LeC.nils _ _) | (refine LeA.int ?_; omega) | (refine LeA.int ?_; dsimp only; omega) | exact LeA.c (LeC.fz rfl rfl (by first | rfl | omega) (fun i _ j _ => ⟨rfl, by first | rfl | exact rowN_imm (fun _ => rfl) _ i j | exact rowF_imm (fun _ => rfl) _ i j⟩))⟩, ?_⟩)
                · exact ⟨HeapOk.row rfl rfl hlen (row_snoc L3 ((j : Int) - m, (i : Int) - m) mvC_imm rfl), trivial⟩
              · rw [show shB m s i j = false from decide_eq_false hb, if_neg (by decide), List.append_nil] at hsu
                repeat (first
                  | refine AWp.seq ?_
                  | refine thenA_n ?_
                  | refine AWp.block ?_
                  | refine AWp.skip ?_
                  | refine inBlk_n ?_
                  | refine AWp.condT rfl (by first | rfl | assumption | exact cmT) ?_
                  | refine AWp.condF rfl (by first | rfl | assumption | exact cmF) ?_
                  | (refine AWp.region (id := 9) ?_; refine AList.move rfl rfl rfl ?_; refine AList.move rfl rfl rfl ?_; refine AList.cmpT rfl rfl rfl rfl rfl cmT ?_; refine AList.nil ?_)
                  | (refine AWp.region (id := 10) ?_; refine AList.move rfl rfl rfl ?_; refine AList.add rfl rfl rfl rfl (by omega) (by omega) ?_; refine AList.assign rfl rfl rfl ?_; refine AList.nil ?_)
                  | (refine AWp.region (id := 11) ?_; refine AList.move rfl rfl rfl ?_; refine AList.move rfl rfl rfl ?_; refine AList.neg rfl rfl rfl (by omega) (by omega) ?_; refine AList.maxI rfl rfl rfl rfl ?_; refine AList.move rfl rfl rfl ?_; refine AList.move rfl rfl rfl ?_; refine AList.neg rfl rfl rfl (by omega) (by omega) ?_; refine AList.maxI rfl rfl rfl rfl ?_; refine AList.add rfl rfl rfl rfl (by omega) (by omega) ?_; refine AList.move rfl rfl rfl ?_; refine AList.cmpF rfl rfl rfl rfl rfl cmF ?_; refine AList.nil ?_))
                refine ⟨(j + 1, L3), ⟨by dsimp only; omega, by rw [hL3, hsu], by dsimp only; omega⟩, Wk.mk [(20, some 20)] rfl rfl rfl ?_ ?_, by dsimp only; omega⟩
                · repeat (first | exact trivial | refine ⟨⟨_, rfl, by first | exact LeA.c (LeC.refl _ rfl) | exact LeA.c (LeC.ow _ _ rfl) | exact LeA.c (LeC.pt _ _ _ _ _ rfl) | exact LeA.c (LeC.nil _ rfl) | exact LeA.c (LeC.nils _ _) | (refine LeA.int ?_; omega) | (refine LeA.int ?_; dsimp only; omega) | exact LeA.c (LeC.fz rfl rfl (by first | rfl | omega) (fun i _ j _ => ⟨rfl, by first | rfl | exact rowN_imm (fun _ => rfl) _ i j | exact rowF_imm (fun _ => rfl) _ i j⟩))⟩, ?_⟩)
                · repeat (first | exact trivial | refine ⟨by first | exact HeapOk.same rfl rfl rfl rfl | exact HeapOk.lent rfl rfl rfl rfl | exact HeapOk.nil rfl rfl | exact HeapOk.row rfl rfl (by first | rfl | omega) (fun i _ j _ => ⟨rfl, by first | rfl | exact rowN_imm (fun _ => rfl) _ i j | exact rowF_imm (fun _ => rfl) _ i j⟩) | exact HeapOk.box rfl rfl (by repeat (first | exact trivial | refine ⟨by first | exact LeC.refl _ rfl | exact LeC.ow _ _ rfl | exact LeC.nil _ rfl | exact LeC.nils _ _ | exact LeC.fz rfl rfl (by first | rfl | omega) (fun i _ j _ => ⟨rfl, by first | rfl | exact rowN_imm (fun _ => rfl) _ i j | exact rowF_imm (fun _ => rfl) _ i j⟩) | exact LeC.int (by omega), ?_⟩)) rfl, ?_⟩)
            · obtain rfl : j = 2 * m + 1 := by omega
              have hsu : shM m s (i + 1) = shM m s i ++ shJ m s i (2 * m + 1) := flat_succ _ _
              repeat (first
                | refine AWp.seq ?_
                | refine thenA_n ?_
                | refine AWp.exit ?_
                | refine thenA_e ?_
                | refine inBlk_n ?_
                | refine inBlk_hit ?_
                | refine AWp.condF rfl (by first | rfl | assumption | exact cmF) ?_
                | (refine AWp.region (id := 7) ?_; refine AList.move rfl rfl rfl ?_; refine AList.add rfl rfl rfl rfl (by omega) (by omega) ?_; refine AList.assign rfl rfl rfl ?_; refine AList.nil ?_)
                | (refine AWp.region (id := 9) ?_; refine AList.move rfl rfl rfl ?_; refine AList.move rfl rfl rfl ?_; refine AList.cmpF rfl rfl rfl rfl rfl cmF ?_; refine AList.nil ?_))
              refine ⟨(i + 1, L3), ⟨by dsimp only; omega, by rw [hL3, hsu, List.append_assoc], by dsimp only; omega⟩, Wk.mk [(20, some 20)] rfl rfl rfl ?_ ?_, by dsimp only; omega⟩
              · repeat (first | exact trivial | refine ⟨⟨_, rfl, by first | exact LeA.c (LeC.refl _ rfl) | exact LeA.c (LeC.ow _ _ rfl) | exact LeA.c (LeC.pt _ _ _ _ _ rfl) | exact LeA.c (LeC.nil _ rfl) | exact LeA.c (LeC.nils _ _) | (refine LeA.int ?_; omega) | (refine LeA.int ?_; dsimp only; omega) | exact LeA.c (LeC.fz rfl rfl (by first | rfl | omega) (fun i _ j _ => ⟨rfl, by first | rfl | exact rowN_imm (fun _ => rfl) _ i j | exact rowF_imm (fun _ => rfl) _ i j⟩))⟩, ?_⟩)
              · repeat (first | exact trivial | refine ⟨by first | exact HeapOk.same rfl rfl rfl rfl | exact HeapOk.lent rfl rfl rfl rfl | exact HeapOk.nil rfl rfl | exact HeapOk.row rfl rfl (by first | rfl | omega) (fun i _ j _ => ⟨rfl, by first | rfl | exact rowN_imm (fun _ => rfl) _ i j | exact rowF_imm (fun _ => rfl) _ i j⟩) | exact HeapOk.box rfl rfl (by repeat (first | exact trivial | refine ⟨by first | exact LeC.refl _ rfl | exact LeC.ow _ _ rfl | exact LeC.nil _ rfl | exact LeC.nils _ _ | exact LeC.fz rfl rfl (by first | rfl | omega) (fun i _ j _ => ⟨rfl, by first | rfl | exact rowN_imm (fun _ => rfl) _ i j | exact rowF_imm (fun _ => rfl) _ i j⟩) | exact LeC.int (by omega), ?_⟩)) rfl, ?_⟩)
        · obtain rfl : i = 2 * m + 1 := by omega
          have hsu : shS m (s + 1) = shS m s ++ shM m s (2 * m + 1) := flat_succ _ _
          repeat (first
            | refine AWp.seq ?_
            | refine thenA_n ?_
            | refine AWp.exit ?_
            | refine thenA_e ?_
            | refine inBlk_n ?_
            | refine inBlk_hit ?_
            | refine AWp.condF rfl (by first | rfl | assumption | exact cmF) ?_
            | (refine AWp.region (id := 4) ?_; refine AList.move rfl rfl rfl ?_; refine AList.add rfl rfl rfl rfl (by omega) (by omega) ?_; refine AList.assign rfl rfl rfl ?_; refine AList.nil ?_)
            | (refine AWp.region (id := 6) ?_; refine AList.move rfl rfl rfl ?_; refine AList.move rfl rfl rfl ?_; refine AList.cmpF rfl rfl rfl rfl rfl cmF ?_; refine AList.nil ?_))
          refine ⟨(s + 1, L2), ⟨by dsimp only; omega, by rw [hL2, hsu], by dsimp only; omega⟩, Wk.mk [(20, some 20)] rfl rfl rfl ?_ ?_, by dsimp only; omega⟩
          · repeat (first | exact trivial | refine ⟨⟨_, rfl, by first | exact LeA.c (LeC.refl _ rfl) | exact LeA.c (LeC.ow _ _ rfl) | exact LeA.c (LeC.pt _ _ _ _ _ rfl) | exact LeA.c (LeC.nil _ rfl) | exact LeA.c (LeC.nils _ _) | (refine LeA.int ?_; omega) | (refine LeA.int ?_; dsimp only; omega) | exact LeA.c (LeC.fz rfl rfl (by first | rfl | omega) (fun i _ j _ => ⟨rfl, by first | rfl | exact rowN_imm (fun _ => rfl) _ i j | exact rowF_imm (fun _ => rfl) _ i j⟩))⟩, ?_⟩)
          · repeat (first | exact trivial | refine ⟨by first | exact HeapOk.same rfl rfl rfl rfl | exact HeapOk.lent rfl rfl rfl rfl | exact HeapOk.nil rfl rfl | exact HeapOk.row rfl rfl (by first | rfl | omega) (fun i _ j _ => ⟨rfl, by first | rfl | exact rowN_imm (fun _ => rfl) _ i j | exact rowF_imm (fun _ => rfl) _ i j⟩) | exact HeapOk.box rfl rfl (by repeat (first | exact trivial | refine ⟨by first | exact LeC.refl _ rfl | exact LeC.ow _ _ rfl | exact LeC.nil _ rfl | exact LeC.nils _ _ | exact LeC.fz rfl rfl (by first | rfl | omega) (fun i _ j _ => ⟨rfl, by first | rfl | exact rowN_imm (fun _ => rfl) _ i j | exact rowF_imm (fun _ => rfl) _ i j⟩) | exact LeC.int (by omega), ?_⟩)) rfl, ?_⟩)
    · obtain rfl : s = 2 * m + 1 := by omega
      subst hL
      repeat (first
        | refine AWp.seq ?_
        | refine thenA_n ?_
        | refine AWp.exit ?_
        | refine AWp.ret ?_
        | refine AWp.condF rfl (by first | rfl | assumption | exact cmF) ?_
        | (refine AWp.region (id := 3) ?_; refine AList.move rfl rfl rfl ?_; refine AList.move rfl rfl rfl ?_; refine AList.mul rfl rfl rfl rfl (by omega) (by omega) ?_; refine AList.cmpF rfl rfl rfl rfl rfl cmF ?_; refine AList.nil ?_)
        | (refine AWp.region (id := 13) ?_; refine AList.move rfl rfl rfl ?_; refine AList.assign rfl rfl rfl ?_; refine AList.nil ?_))
      refine ⟨mkSt 45 [(2, .c (.ls (shL m).length 2 (rowF mvC mvZ (shL m))))] [] [], [], Wk.mk [] rfl rfl rfl ?_ trivial, rfl, rfl, ARets.one (x := .c _) (ARes.tmp rfl rfl)⟩
      unfold shL
      repeat (first | exact trivial | refine ⟨⟨_, rfl, by first | exact LeA.c (LeC.refl _ rfl) | exact LeA.c (LeC.ow _ _ rfl) | exact LeA.c (LeC.pt _ _ _ _ _ rfl) | exact LeA.c (LeC.nil _ rfl) | exact LeA.c (LeC.nils _ _) | (refine LeA.int ?_; omega) | (refine LeA.int ?_; dsimp only; omega) | exact LeA.c (LeC.fz rfl rfl (by first | rfl | omega) (fun i _ j _ => ⟨rfl, by first | rfl | exact rowN_imm (fun _ => rfl) _ i j | exact rowF_imm (fun _ => rfl) _ i j⟩))⟩, ?_⟩)
end Go.Proofs.Ytijaioiojclooaa
end

section
namespace Go.Proofs.Ytijaioiojclooaa
open Go.RowKit Go.Flow Go.AV Go.Plain Go.AV.Srt
set_option maxRecDepth 100000 in
theorem rlim24_A (x : Bg) : ACalls Try.prog 43 [.ag (bgC x)] (.ag (bgC (lim4 x))) := by
  have h := rlim_A x
  refine acalls_at Try.func43 rfl rfl Try.ntmps43 rfl ?_
  repeat (first
    | refine AWp.seq ?_
    | refine thenA_n ?_
    | refine AWp.ret ?_
    | (refine AWp.region (id := 0) ?_; refine AList.box rfl rfl rfl rfl rfl ?_; refine AList.alloc tyOk rfl rfl rfl rfl rfl ?_; refine AList.nil ?_)
    | (refine AWp.region (id := 1) ?_; refine AList.loadA tyOk rfl rfl rfl rfl rfl rfl rfl oM oM ?_; refine AList.call rfl rfl rfl rfl Try.func59 rfl (by kernel_rfl) (h) ?_; refine AList.store tyOk rfl rfl rfl rfl rfl rfl rfl rfl oM oM ?_; refine AList.nil ?_))
  refine ⟨mkSt 5 [(2, .c (.pt 2 4 0 0))] [(2, ⟨false, 1, 4, 29, lF (bgC (lim4 x))⟩)] [2], [(2, ⟨false, 1, 4, 29, lF (bgC (lim4 x))⟩)], Wk.mk [(2, some 2)] rfl rfl rfl ?_ ?_, rfl, rfl, ARets.one (x := .ag _) (ARes.box tyOk rfl rfl rfl rfl rfl rfl rfl)⟩
  · repeat (first | exact trivial | refine ⟨⟨_, rfl, by first | exact LeA.c (LeC.refl _ rfl) | exact LeA.c (LeC.ow _ _ rfl) | exact LeA.c (LeC.pt _ _ _ _ _ rfl) | exact LeA.c (LeC.nil _ rfl) | exact LeA.c (LeC.nils _ _) | (refine LeA.int ?_; omega) | (refine LeA.int ?_; dsimp only; omega) | exact LeA.c (LeC.fz rfl rfl (by first | rfl | omega) (fun i _ j _ => ⟨rfl, by first | rfl | exact rowN_imm (fun _ => rfl) _ i j | exact rowF_imm (fun _ => rfl) _ i j⟩))⟩, ?_⟩)
  · repeat (first | exact trivial | refine ⟨by first | exact HeapOk.same rfl rfl rfl rfl | exact HeapOk.lent rfl rfl rfl rfl | exact HeapOk.nil rfl rfl | exact HeapOk.row rfl rfl (by first | rfl | omega) (fun i _ j _ => ⟨rfl, by first | rfl | exact rowN_imm (fun _ => rfl) _ i j | exact rowF_imm (fun _ => rfl) _ i j⟩) | exact HeapOk.box rfl rfl (by repeat (first | exact trivial | refine ⟨by first | exact LeC.refl _ rfl | exact LeC.ow _ _ rfl | exact LeC.nil _ rfl | exact LeC.nils _ _ | exact LeC.fz rfl rfl (by first | rfl | omega) (fun i _ j _ => ⟨rfl, by first | rfl | exact rowN_imm (fun _ => rfl) _ i j | exact rowF_imm (fun _ => rfl) _ i j⟩) | exact LeC.int (by omega), ?_⟩)) rfl, ?_⟩)
set_option maxRecDepth 100000 in
theorem rShifts_A (x y : Bg) : ACalls Try.prog 18 [.ag (bgC x), .ag (bgC y)] (.c (.ls (shL (shN x y)).length 2 (rowF mvC mvZ (shL (shN x y))))) := by
  obtain ⟨e, hm⟩ := shN_eq x y
  have h1 := rlim24_A x
  have h2 := rlim24_A y
  have h3 := Shifts_A (shN x y) hm
  rw [e] at h3
  have b1 := lim_bds x
  have b2 := lim_bds y
  generalize shN x y = m at *
  refine acalls_at Try.func18 rfl rfl Try.ntmps18 rfl ?_
  repeat (first
    | refine AWp.seq ?_
    | refine thenA_n ?_
    | refine AWp.ret ?_
    | (refine AWp.region (id := 0) ?_; refine AList.box rfl rfl rfl rfl rfl ?_; refine AList.box rfl rfl rfl rfl rfl ?_; refine AList.assign rfl rfl rfl ?_; refine AList.nil ?_)
    | (refine AWp.draw (id := 1) mixed ?_; refine AList.loadA tyOk rfl rfl rfl rfl rfl rfl rfl oM oM ?_; refine AList.call rfl rfl rfl rfl Try.func43 rfl (by kernel_rfl) (h1) ?_; refine AList.field1 tyOk rfl rfl rfl Try.underlying29 rfl rfl rfl rfl ?_; refine AList.loadA tyOk rfl rfl rfl rfl rfl rfl rfl oM oM ?_; refine AList.call rfl rfl rfl rfl Try.func43 rfl (by kernel_rfl) (h2) ?_; refine AList.field1 tyOk rfl rfl rfl Try.underlying29 rfl rfl rfl rfl ?_; refine AList.add rfl rfl rfl rfl (by omega) (by omega) ?_; refine AList.call rfl rfl rfl rfl Try.func42 rfl (by kernel_rfl) (h3) ?_; refine AList.assign rfl rfl rfl ?_; refine AList.nil ⟨by kernel_rfl, ?_⟩))
  refine ⟨mkSt 13 [(4, .c (.ls (shL m).length 2 (rowF mvC mvZ (shL m))))] [] [], [], Wk.mk [] rfl rfl rfl ?_ trivial, rfl, rfl, ARets.one (x := .c _) (ARes.tmp rfl rfl)⟩
  repeat (first | exact trivial | refine ⟨⟨_, rfl, by first | exact LeA.c (LeC.refl _ rfl) | exact LeA.c (LeC.ow _ _ rfl) | exact LeA.c (LeC.pt _ _ _ _ _ rfl) | exact LeA.c (LeC.nil _ rfl) | exact LeA.c (LeC.nils _ _) | (refine LeA.int ?_; omega) | (refine LeA.int ?_; dsimp only; omega) | exact LeA.c (LeC.fz rfl rfl (by first | rfl | omega) (fun i _ j _ => ⟨rfl, by first | rfl | exact rowN_imm (fun _ => rfl) _ i j | exact rowF_imm (fun _ => rfl) _ i j⟩))⟩, ?_⟩)
end Go.Proofs.Ytijaioiojclooaa
end
