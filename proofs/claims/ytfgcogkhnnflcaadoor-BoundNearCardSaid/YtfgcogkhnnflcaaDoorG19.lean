/- Parts of the proof: AWld, A26a. -/
import Derived.Test.YtfgcogkhnnflcaaDoorG11
import Derived.Test.YtfgcogkhnnflcaaDoorG06
import Derived.Test.YtfgcogkhnnflcaaDoorG18
import Derived.Test.YtfgcogkhnnflcaaDoorG16
import Derived.Test.YtfgcogkhnnflcaaDoorG05
import Derived.Test.YtfgcogkhnnflcaaDoorG14
import Derived.Test.YtfgcogkhnnflcaaDoorG02
set_option linter.unusedSimpArgs false
set_option linter.unusedVariables false
section
namespace Go.AV
open Go Go.RowKit Go.Flow
section
variable {P : Program}
/-- What new memory does not touch. -/
def Stays (K : World → Prop) : Prop := ∀ (w0 : World) (O : Nat → Prop) (a b : World), K w0 → Keep O a b → (∀ k, O k → w0.heap.size ≤ k) → K a → K b
def WCalls (P : Program) (K : World → Prop) (f : FuncId) (args : List V1) (R : AV → Prop) : Prop :=
  ∀ (O : Nat → Prop) (w : World) (vals : List Value), (∀ b, O b → b < w.heap.size) → RepL (RepV (fun _ => none) O w) args vals → K w →
    Calls P f vals.toArray w fun e w' => ∃ v r, e = .returned v ∧ R r ∧ RepA (fun _ => none) O w' r v ∧ Ext w w'
section
variable {ops : Array Oper} {rest : List Oper} {acc : List (List Nat × List Nat)} {S : St} {Q : List (List Nat × List Nat) → St → Prop} {dst : Option Tmp} {ty : TypeId} {pos : String} {after : Array Edge} {guard : Option (Nat × Bool)}
end
end
end Go.AV
end

section
namespace Go.Proofs.YtfgcogkhnnflcaaDoor
open Go.RowKit Go.Flow Go.AV Go.Plain
theorem sides_stay : Stays Sides := fun w0 O a b h0 hK hO ha => ⟨fun i hi => by
  have hlt : 0 < w0.heap.size := h0.lt
  have h1 := ha.cell i hi
  have hb : b.heap[0]? = a.heap[0]? := hK.block 0 ha.lt fun h => by have := hO 0 h; omega
  rw [← h1]
  unfold World.cell?
  rw [hb]⟩
theorem rep_bud {σ : Nat → Option Value} {O : Nat → Prop} {w : World} {x : Bg} {u : Value} (h : RepV σ O w (.ag (bgC x)) u) : u = bud x.lo x.bl x.sh x.st := by
  obtain ⟨vs, rfl, hv⟩ := h
  match vs, hv with
  | [a, b, c, d], ⟨h1, h2, h3, h4, _⟩ =>
    cases h1.2
    cases h2.2
    cases h3.2
    cases h4.2
    rfl
/-- What Least returns. -/
def leL (a b : Bp) (x y : Bg) : Int := leastN a.W a.H a.n a.d b.W b.H b.n b.d x.lo x.bl x.sh x.st y.lo y.bl y.sh y.st
theorem okN_cmp (a b : Bp) : okN a.W a.H a.n b.W b.H b.n = decide (cmpOk a b) := by
  unfold okN
  exact decide_eq_decide.2 Iff.rfl
theorem Least_W (a b : Bp) (x y : Bg) : WCalls Tryd.prog Sides 15 [.ag (bpC a), .ag (bpC b), .ag (bgC x), .ag (bgC y)] (fun r => r = .tu [.c (iC (leL a b x y)), .c (bC (decide (cmpOk a b)))]) := fun O w vals hO h hS => by
  obtain ⟨v1, v2, v3, v4, rfl, h1, h2, h3, h4⟩ : ∃ v1 v2 v3 v4, vals = [v1, v2, v3, v4] ∧ RepV (fun _ => none) O w (.ag (bpC a)) v1 ∧ RepV (fun _ => none) O w (.ag (bpC b)) v2 ∧ RepV (fun _ => none) O w (.ag (bgC x)) v3 ∧ RepV (fun _ => none) O w (.ag (bgC y)) v4 := by
    match vals, h with
    | [v1, v2, v3, v4], ⟨k1, k2, k3, k4, _⟩ => exact ⟨v1, v2, v3, v4, rfl, k1, k2, k3, k4⟩
  obtain ⟨A, c, rfl, -, hA⟩ := rep_bmp h1
  obtain ⟨B, d, rfl, -, hB⟩ := rep_bmp h2
  cases rep_bud h3
  cases rep_bud h4
  refine (Least_any a.W a.H A a.n c a.d b.W b.H B b.n d b.d x.lo x.bl x.sh x.st y.lo y.bl y.sh y.st w hA hB hS).mono fun e w' ⟨g1, g2⟩ => ?_
  rw [okN_cmp] at g1
  exact ⟨_, _, g1, rfl, ⟨[_, _], rfl, ⟨rfl, rfl⟩, ⟨rfl, rfl⟩, trivial⟩, g2⟩
theorem sanity_W : WCalls Tryd.prog Sides 8 [] (fun r => r = .c (bC true)) := fun O w vals hO h hS => by
  match vals, h with
  | [], _ => exact (sanity_any w hS).mono fun e w' ⟨g1, g2⟩ => ⟨_, _, g1, rfl, ⟨rfl, rfl⟩, g2⟩
theorem le_below (a b : Bp) (x y : Bg) (h : cmpOk a b) : leL a b x y ≤ (slkV a b x y).1 := least_below a b x y h
end Go.Proofs.YtfgcogkhnnflcaaDoor
end
