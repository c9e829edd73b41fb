/- Parts of the proof: AWld, A26b. -/
import Derived.Test.YtfgcogkhnnflcaaDoorG19
import Derived.Test.YtfgcogkhnnflcaaDoorG11
import Derived.Test.YtfgcogkhnnflcaaDoorHA26nbc04
import Derived.Test.YtfgcogkhnnflcaaDoorHA26nbc03
import Derived.Laws.StructEq
import Derived.Test.YtfgcogkhnnflcaaDoorG10
import Derived.Test.YtfgcogkhnnflcaaDoorHA26nbc02
import Derived.Great.BuildSlice
import Derived.Test.YtfgcogkhnnflcaaDoorG09
import Derived.RangeFuncLeaves
import Derived.RangeFuncRecord
import Derived.Test.YtfgcogkhnnflcaaDoorG08
import Derived.Test.YtfgcogkhnnflcaaDoorG06
import Derived.Test.YtfgcogkhnnflcaaDoorG04
import Derived.Deep.AppendLies
import Derived.Test.YtfgcogkhnnflcaaDoorG01
import Derived.OrdersIn
import Derived.TacticsIn
import Derived.RangeFuncCalls
import Derived.Maps.AppendAt
import Derived.OwnWalk
import Derived.StillTail
import Derived.Below
import Derived.Deep.Draws
import Derived.WalkKit
import Derived.KernelRfl
import Derived.Test.YtfgcogkhnnflcaaDoorG18
import Derived.Test.YtfgcogkhnnflcaaDoorHA26nbc17
import Derived.Test.YtfgcogkhnnflcaaDoorProg
import Derived.Test.YtfgcogkhnnflcaaDoorG05
import Derived.Deep.DeepCutAuto
import Derived.Test.YtfgcogkhnnflcaaDoorG03
import Derived.Test.YtfgcogkhnnflcaaDoorG07
import Derived.Test.YtfgcogkhnnflcaaDoorHA26nbc16
import Derived.Test.YtfgcogkhnnflcaaDoorHA26nbc10
import Derived.Test.YtfgcogkhnnflcaaDoorG02
import Derived.Test.YtfgcogkhnnflcaaDoorG16
import Derived.Test.YtfgcogkhnnflcaaDoorHA26nbc01
import Derived.Test.YtfgcogkhnnflcaaDoorG14
import Derived.Test.YtfgcogkhnnflcaaDoorG13
import Derived.Lib.Hide
import Derived.Deep.QuietTactic
import Derived.BigQuiet
import Derived.Deep.DrawnRows
import Derived.Laws.EntriesVeiled
import Derived.Test.YtfgcogkhnnflcaaDoorHA26nbc15
import Derived.Scope
import Derived.Test.YtfgcogkhnnflcaaDoorHA26nbc13
import Derived.Test.YtfgcogkhnnflcaaDoorHA26nbc14
import Derived.Test.YtfgcogkhnnflcaaDoorG12
import Derived.Shelf.Abstract
import Derived.Test.YtfgcogkhnnflcaaDoorG17
import Derived.Test.YtfgcogkhnnflcaaDoorHA26nbc12
import Derived.RangeFuncNested
import Derived.Laws.Cover3
import Derived.Test.YtfgcogkhnnflcaaDoorHA26nbc09
import Derived.Test.YtfgcogkhnnflcaaDoorHA26nbc08
import Derived.Test.YtfgcogkhnnflcaaDoorHA26nbc11
import Derived.Test.YtfgcogkhnnflcaaDoorHA26nbc07
import Derived.Test.YtfgcogkhnnflcaaDoorHA26nbc06
import Derived.Test.YtfgcogkhnnflcaaDoorHA26nbc05
import Derived.Test.YtfgcogkhnnflcaaDoorG15
set_option linter.unusedSimpArgs false
set_option linter.unusedVariables false
section
namespace Go.AV
open Go Go.RowKit Go.Flow
section
variable {P : Program}
abbrev GW (K : World → Prop) : Base → Prop := fun b => b.rd = none ∧ ∀ i d w, b.J i d w → K w
abbrev entryW (K : World → Prop) (n : Nat) (args : List V1) : St := { entryL n args [] with G := GW K }
theorem wcalls_at {K : World → Prop} (hS : Stays K) {f : FuncId} {fn : Func} {c : Code} {rs : List ResultVar} {args : List V1} {R : AV → Prop} {n : Nat} (hf : P.funcs[f]? = some fn) (hb : fn.body = some c) (hr : fn.results = rs.toArray) (hn : fn.ntmps = n) (hl : Nat.ble args.length n = true)
    (h : AWp P c (RetE P rs R) (entryW K n args)) : WCalls P K f args R := fun O w vals hO hv hKw => by
  subst hn
  let b0 : Base := ⟨w, O, fun _ => False, fun _ => none, hO, fun b hb => hb.elim, fun b _ h => h, fun i v h => (by cases h), fun _ _ => False, fun _ _ w' => K w', none, fun _ _ h => h.elim, fun _ _ O' a b hJ hK hO' => hS w O' a b hKw hK (fun k hk => (hO' k hk).elim id fun h => h.elim) hJ⟩
  have hl' := hv.length
  have hO' : ∀ b, out b0 (fun _ => none) (assoc []) b → O b := fun b hb => hb.elim (fun ⟨i, v, h1, _⟩ => absurd rfl h1) fun h => h
  refine calls_of_awp (b0 := b0) hf hb rfl h ⟨fun _ => none, trivial, ?_, ⟨rfl, rfl, rfl, Nat.le_refl _, fun _ _ _ => rfl⟩, ⟨fun id B hB => (by cases hB), fun i j v1 v2 b hi => absurd rfl hi, fun b ⟨i, v, hi, _⟩ => absurd rfl hi, fun i v hi => (by cases hi), fun _ _ _ => rfl⟩, fun t x hx => ?_, fun id hid => ⟨rfl, Nat.blt_eq.mp hid⟩, fun i v hi => (by cases hi), ⟨rfl, fun _ _ _ h => h⟩, hKw⟩ (fun e S hQ => by cases e <;> first | exact .inl rfl | exact .inr rfl | (obtain ⟨_, _, hQ⟩ := hQ; exact hQ.elim)) fun e a w' S0 hR0 hQ0 hd0 => ?_
  · have := Nat.ble_eq.mp hl
    simp [entryL, hl']; omega
  · obtain ⟨y, e1, rfl⟩ : ∃ y, args[t]? = some y ∧ y.av = x := by simpa [entryL, Option.map_eq_some_iff] using hx
    obtain ⟨v, e2, e3⟩ := hv.get e1
    have ht : (vals.toArray ++ Array.replicate (fn.ntmps - vals.toArray.size) undef).getD t undef = v := by
      have hlt := (List.getElem?_eq_some_iff.1 e2).1
      have := (List.getElem?_eq_some_iff.1 e2).2
      simp [Array.getD_eq_getD_getElem?, Array.getElem?_append, hlt, this]
    rw [ht]
    exact (e3.keep ⟨rfl, rfl, rfl, Nat.le_refl _, fun _ _ _ => rfl⟩ (fun b hb => .inl (hO' b hb)) fun _ _ h => h).av
  · have fin : ∀ S r, R r → Rel b0 S a w' → (∃ S' loc, Wk S S' ∧ S'.h = assoc (loc ++ []) ∧ loc.all (fun p => Nat.blt p.1 1000) = true ∧ ARets P S' rs r) → ∃ v, (results fn a.tmps).run P w' = .ok v w' ∧ ∃ v' r, Ending.returned v = .returned v' ∧ R r ∧ RepA (fun _ => none) O w' r v' ∧ Ext w w' := fun S r hr1 hR ⟨S', loc, hw, hS', hlc, hS⟩ => by
      obtain ⟨σ, Rr⟩ := hw b0 a w' hR
      obtain ⟨v, h1, h2⟩ := hS.run hr Rr
      have hH0 := Rr.hp
      rw [hS'] at hH0 h2
      obtain ⟨hH', hsub⟩ := hH0.lent hlc rfl
      replace h2 := h2.keep (σ' := fun _ => none) ⟨rfl, rfl, rfl, Nat.le_refl _, fun _ _ _ => rfl⟩ (fun b (hb : O b) => .inl (.inr hb)) fun _ _ h => h
      exact ⟨v, h1, v, r, rfl, hr1, h2, Rr.ext.os, Rr.ext.tape, Rr.ext.output, Rr.ext.size, fun k hk => Rr.ext.block k hk fun h => h.elim (fun h => h) fun h => h⟩
    obtain ⟨r, hr1, hQ⟩ := hQ0
    cases e with
    | ret => exact fin S0 r hr1 hR0 hQ
    | normal => exact fin S0 r hr1 hR0 hQ
    | _ => exact hQ.elim
section
variable {ops : Array Oper} {rest : List Oper} {acc : List (List Nat × List Nat)} {S : St} {Q : List (List Nat × List Nat) → St → Prop} {dst : Option Tmp} {ty : TypeId} {pos : String} {after : Array Edge} {guard : Option (Nat × Bool)}
/-- A call whose contract wants the variable. -/
theorem AList.callW {K : World → Prop} {f : FuncId} {fn : Func} {xs : Array Operand} {ats : Array TypeId} {args : List V1} {r : AV} (hG : ∀ b, S.G b → ∀ i d w, b.J i d w → K w) (hw : S.wants ops { dst, op := .call { callee := .value (.func f), args := xs, argTypes := ats }, type := ty, pos, after, guard } = some true) (hd : dOk S.n dst = true)
    (ha : S.opds xs.toList = some args) (hi : args.all immV = true) (hf : P.funcs[f]? = some fn) (hb : fn.body.isNone = false) (hnm : (fn.name == "runtime.NumGoroutine") = false) (hc : WCalls P K f args (fun x => x = r))
    (hn : AList P ops rest (([], []) :: acc) (S.eff dst ⟨r, [], []⟩) Q) : AList P ops ({ dst, op := .call { callee := .value (.func f), args := xs, argTypes := ats }, type := ty, pos, after, guard } :: rest) acc S Q :=
  AList.cons [] ⟨r, [], []⟩ (LStep.of hw fun S1 hA _ _ b0 σ a w R => by
    have h2 : S1.opds xs.toList = some args := (opds_congr fun x hx => hA.op x (by simp only [Op.operands, Call.operands]; simp; exact .inr (by simpa using hx))).trans ha
    have hv := opds_rep R h2
    have hgd : S.G b0 := by rw [← hA.G]; exact R.gd
    have hK : K w := hG b0 hgd _ _ _ R.gh
    have this := hc (out b0 σ S1.h) w (xs.toList.map a.eval) (fun b hb => own_lt R hb) (RepL.of_get hv.length fun i x v h1 h2 => by
      obtain ⟨v', e1, e2⟩ := hv.get h1
      rw [h2] at e1
      cases e1
      exact strip0 (List.all_eq_true.1 hi _ (List.mem_of_getElem? h1)) e2) hK
    rw [run_callf f fn hf hb hnm #[] #[] rfl w]
    simp only [Goes]
    rw [show (#[] ++ xs.map a.eval ++ #[] : Array Value) = (xs.toList.map a.eval).toArray from Array.ext' (by simp)]
    exact this.mono fun e w' ⟨v, r', g1, g2, g3, g4⟩ => by
      subst g2
      exact ⟨v, g1, σ, R.val (by rw [hA.n]; exact hd) g4 fun _ => g3.some_⟩) hn
end
end
end Go.AV
end

section
namespace Go.Proofs.YtfgcogkhnnflcaaDoor
open Go.RowKit Go.Flow Go.AV Go.Plain
set_option maxRecDepth 100000 in
theorem cut26_A (N : Nat) (f : Nat → Int) : ACalls Tryd.prog 10 [.c (.ls N 1 (iF f))] (.c (.ls (min N 60) 1 (iF f))) := by
  have e2 : min (N : Int) 60 = ((min N 60 : Nat) : Int) := by omega
  have e3 : min N 60 ≤ N := by omega
  generalize min N 60 = k at e2 e3
  refine acalls_at Tryd.func10 rfl rfl Tryd.ntmps10 rfl ?_
  repeat (first
    | refine AWp.seq ?_
    | refine thenA_n ?_
    | refine AWp.ret ?_
    | (refine AWp.region (id := 0) ?_; refine AList.assign rfl rfl rfl ?_; refine AList.nil ?_)
    | (refine AWp.region (id := 1) ?_; refine AList.move rfl rfl rfl ?_; refine AList.move rfl rfl rfl ?_; refine AList.lenLs tyOk rfl rfl rfl rfl rfl ?_; refine AList.minI rfl rfl rfl rfl ?_; refine AList.cut (l := 0) (h := k) tyOk rfl rfl rfl rfl rfl rfl rfl rfl ⟨_, _, rfl, by first | rfl | omega⟩ (by omega) (by omega) ?_; refine AList.assign rfl rfl rfl ?_; refine AList.nil ?_))
  refine ⟨mkSt 8 [(2, .c (.ls k 1 (iF f)))] [] [], [], Wk.mk [] rfl rfl rfl ?_ trivial, rfl, rfl, ARets.one (x := .c _) (ARes.tmp rfl rfl)⟩
  exact ⟨⟨_, rfl, LeA.c (LeC.lz (by first | rfl | omega) (fun _ _ _ _ => by simp only [Nat.zero_add]))⟩, trivial⟩
theorem iF_zero (f : Nat → Int) : (fun i j => iF f (0 + i) j) = iF f := funext fun i => by rw [Nat.zero_add]
theorem Budget0_A (k : Nat) (f : Nat → Int) (hk : k ≤ 4611686018427387904) : ACalls Tryd.prog 20 [.c (.ls k 1 (fun i j => iF f (0 + i) j))] (.ag (bgC (bgN k f))) := by
  rw [iF_zero]
  exact Budget_A k f hk
end Go.Proofs.YtfgcogkhnnflcaaDoor
end
