/- Parts of the proof: Flow, Flow2, Base, Low, Same. -/
import Derived.StillTail
import Derived.Below
import Derived.Deep.Draws
import Derived.WalkKit
import Derived.KernelRfl
import Derived.Test.YtfgcogkhnnflcaaDoorProg
import Derived.Lib.Hide
import Derived.Deep.QuietTactic
import Derived.BigQuiet
import Derived.Deep.DrawnRows
set_option linter.unusedSimpArgs false
set_option linter.unusedVariables false
section
namespace Go.Flow
open Go Go.RowKit

/-- New memory alone: all that was there is as it was. -/
def Ext (w w' : World) : Prop := Below w.heap.size w w'
theorem Ext.refl (w : World) : Ext w w := Below.refl _ _
theorem Ext.trans {a b c : World} (h : Ext a b) (k : Ext b c) : Ext a c := Below.trans h (Below.mono k h.size)
theorem Ext.size {a b : World} (h : Ext a b) : a.heap.size ≤ b.heap.size := Below.size h
theorem Ext.cell {a b : World} (h : Ext a b) {p : Addr} {v : Value} (hc : a.cell? p = some v) : b.cell? p = some v :=
  (Below.cell h (World.block_lt_of_cell? a p hc)).trans hc
theorem Ext.block {a b : World} (h : Ext a b) {k : Nat} {o : Obj} (hc : a.heap[k]? = some o) : b.heap[k]? = some o :=
  (Below.block h k (Array.getElem?_eq_some_iff.1 hc).1).trans hc
theorem Ext.drew {a b : World} (h : Ext a b) : Ext a b.drew := Below.drew h
theorem Ext.alloc {a b : World} (h : Ext a b) (o : Obj) : Ext a (b.alloc o) := Below.alloc h h.size o
theorem Ext.setCell {a b : World} (h : Ext a b) {p : Addr} (hp : a.heap.size ≤ p.block) (v : Value) : Ext a (b.setCell p v) := Below.setCell h hp v
theorem Ext.grown {a b c : World} {row : Option Nat} (h : Ext a b) (hg : b.grownBy c row) (hr : ∀ k, row = some k → a.heap.size ≤ k) : Ext a c := Below.grown h hg h.size hr

/-- The walk from here on knows of the world what S says. -/
theorem wp_abs {P : Program} {c : Code} {Q : Exit → Act → World → Prop} {a : Act} {w : World} (S : World → Prop) (hS : S w) (h : ∀ W, S W → c.wp P Q a W) : c.wp P Q a w := h w hS

section
variable {P : Program} {ops : Array Oper} {md : Region.Mode} {C : World → Prop}

/-- What the run of one operation comes to: the value v, in a world of the class. -/
def Comes (P : Program) (C : World → Prop) (v : Value) : Result Next → Prop
  | .ok (.value u) w' => u = v ∧ C w'
  | .ok .skip w' => undef = v ∧ C w'
  | .ok (.enter f args) w' => Calls P f args w' fun e w'' => e = .returned v ∧ C w''
  | _ => False

theorem Comes.upon {o : Oper} {a : Act} {v : Value} {K : Act → World → Prop} {Q : Exit → Act → World → Prop} {r : Result Next}
    (h : Comes P C v r) (hK : ∀ w', C w' → K (a.put o.dst v) w') : o.upon P a K Q r := by
  cases r with
  | ok n w' =>
    cases n <;> simp only [Comes, Oper.upon] at h ⊢
    case value u => obtain ⟨rfl, hc⟩ := h; exact hK _ hc
    case skip => obtain ⟨rfl, hc⟩ := h; exact hK _ hc
    case enter f args => exact h.mono fun e w'' ⟨he, hc⟩ => by subst he; exact hK _ hc
  | halt x w' => simp only [Comes] at h

/-- In every world of the class the operation yields v, and the class is kept. -/
def At (P : Program) (ops : Array Oper) (C : World → Prop) (o : Oper) (v : Value) (a : Act) : Prop :=
  (Region.wanted o (yielded ops a.tmps) = true ∧ ∀ w, C w → Comes P C v ((execOp a.eval o).run P w)) ∨
  (Region.wanted o (yielded ops a.tmps) = false ∧ undef = v)

theorem At.same {o : Oper} {v : Value} {a a' : Act} (h : At P ops C o v a) (he : execOp a'.eval o = execOp a.eval o)
    (hw : Region.wanted o (yielded ops a'.tmps) = Region.wanted o (yielded ops a.tmps)) : At P ops C o v a' := by
  unfold At at *
  rw [he, hw]
  exact h

theorem At.wpOp {i : Nat} {o : Oper} {v : Value} {a : Act} {w : World} {K : Act → World → Prop} {Q : Exit → Act → World → Prop}
    (hi : ops[i]? = some o) (h : At P ops C o v a) (hC : C w) (hK : ∀ w', C w' → K (a.put o.dst v) w') : wpOp P ops Q i K a w := by
  unfold Go.wpOp
  simp only [hi]
  rcases h with ⟨hw, h⟩ | ⟨hw, rfl⟩
  · rw [if_pos hw]
    exact .inl ((h w hC).upon hK)
  · rw [if_neg (by simp [hw])]
    exact hK w hC

def St (P : Program) (ops : Array Oper) (C : World → Prop) (i : Nat) (K : Act → Prop) (a : Act) : Prop :=
  ∃ o v, ops[i]? = some o ∧ At P ops C o v a ∧ K (a.put o.dst v)

theorem St.mono {i : Nat} {a : Act} {K K' : Act → Prop} (h : ∀ a, K a → K' a) (hh : St P ops C i K a) : St P ops C i K' a :=
  let ⟨o, v, h1, h2, h3⟩ := hh
  ⟨o, v, h1, h2, h _ h3⟩

/-- Two operations that do not look at each other's slots change places. -/
theorem St.put {j : Nat} {oi oj : Oper} {v : Value} (hj : ops[j]? = some oj) (hap : oi.apart ops oj = true)
    (hsi : ∀ cs b, oi.op ≠ .select cs b) (hsj : ∀ cs b, oj.op ≠ .select cs b) {K : Act → Prop} {a : Act}
    (hy : At P ops C oi v a) (h : St P ops C j K (a.put oi.dst v)) :
    St P ops C j (fun a' => At P ops C oi v a' ∧ K (a'.put oi.dst v)) a := by
  obtain ⟨h1, h2, h3⟩ := Oper.apart_spec hap
  obtain ⟨o, u, ho, hu, hK⟩ := h
  have hoj : o = oj := Option.some.inj (ho.symm.trans hj)
  subst hoj
  refine ⟨o, u, ho, hu.same (execOp_put o hsj a oi.dst v h1).symm (wanted_put o a oi.dst v h1).symm,
    hy.same (execOp_put oi hsi a o.dst u h3) (wanted_put oi a o.dst u h3), ?_⟩
  rw [← Act.put_comm a v u h2]
  exact hK

/-- The walk in the order of the text. -/
def Walk (P : Program) (ops : Array Oper) (C : World → Prop) (Qn : Act → Prop) : List Oper → Act → Prop
  | [], a => Qn a
  | o :: rest, a => ∃ v, At P ops C o v a ∧ Walk P ops C Qn rest (a.put o.dst v)

theorem Walk.nil {Qn : Act → Prop} {a : Act} (h : Qn a) : Walk P ops C Qn [] a := h
theorem Walk.run {Qn : Act → Prop} {a : Act} {o : Oper} {rest : List Oper} {v : Value} (hg : Region.wanted o (yielded ops a.tmps) = true)
    (hr : ∀ w, C w → (execOp a.eval o).run P w = .ok (.value v) w) (h : Walk P ops C Qn rest (a.put o.dst v)) : Walk P ops C Qn (o :: rest) a :=
  ⟨v, .inl ⟨hg, fun w hw => by rw [hr w hw]; exact ⟨rfl, hw⟩⟩, h⟩
theorem Walk.call {Qn : Act → Prop} {a : Act} {o : Oper} {rest : List Oper} {v : Value} (f : FuncId) (args : Array Value) (hg : Region.wanted o (yielded ops a.tmps) = true)
    (hr : ∀ w, (execOp a.eval o).run P w = .ok (.enter f args) w) (hc : ∀ w, C w → Calls P f args w fun e w' => e = .returned v ∧ C w')
    (h : Walk P ops C Qn rest (a.put o.dst v)) : Walk P ops C Qn (o :: rest) a :=
  ⟨v, .inl ⟨hg, fun w hw => by rw [hr w]; exact hc w hw⟩, h⟩
/-- A call of a Go function, by its name or through a function value. -/
theorem run_callf {a : Act} {dst : Option Tmp} {x : Operand} {xs : Array Operand} {ats : Array TypeId} {ty : TypeId} {pos : String} {after : Array Edge} {guard : Option (Nat × Bool)}
    (f : FuncId) (fn : Func) (hf : P.funcs[f]? = some fn) (hb : fn.body.isNone = false) (hn : (fn.name == "runtime.NumGoroutine") = false)
    (first captured : Array Value) (hx : a.eval x = .func (.func f) first captured) (w : World) :
    (execOp a.eval { dst, op := .call { callee := .value x, args := xs, argTypes := ats }, type := ty, pos, after, guard }).run P w = .ok (.enter f (first ++ xs.map a.eval ++ captured)) w := by
  have hr : execOp a.eval { dst, op := .call { callee := .value x, args := xs, argTypes := ats }, type := ty, pos, after, guard } = callFunc f (first ++ xs.map a.eval ++ captured) := by
    show (do let d ← (resolve a.eval { callee := .value x, args := xs, argTypes := ats } ty); invoke d.target d.args) = _
    simp only [resolve, hx, Deferred.ofValue]
    rfl
  rw [hr]
  have hn' : ¬ fn.name = "runtime.NumGoroutine" := by simpa using hn
  have hb' : ¬ fn.body = none := by cases h : fn.body <;> simp_all
  simp [callFunc, hf, program, Sem.run, bind, Sem.bind, pure]
  rw [if_neg hn', if_neg hb']

theorem Walk.callf {Qn : Act → Prop} {a : Act} {rest : List Oper} {v : Value} {dst : Option Tmp} {x : Operand} {xs : Array Operand} {ats : Array TypeId} {ty : TypeId} {pos : String} {after : Array Edge} {guard : Option (Nat × Bool)}
    {f : FuncId} {fn : Func} (hf : P.funcs[f]? = some fn) (hb : fn.body.isNone = false) (hn : (fn.name == "runtime.NumGoroutine") = false) {args : Array Value}
    {first captured : Array Value} (hx : a.eval x = .func (.func f) first captured)
    (hc : ∀ w, C w → Calls P f args w fun e w' => e = .returned v ∧ C w')
    (ha : first.toList ++ xs.toList.map a.eval ++ captured.toList = args.toList)
    (hg : Region.wanted { dst, op := .call { callee := .value x, args := xs, argTypes := ats }, type := ty, pos, after, guard } (yielded ops a.tmps) = true)
    (h : Walk P ops C Qn rest (a.put dst v)) : Walk P ops C Qn ({ dst, op := .call { callee := .value x, args := xs, argTypes := ats }, type := ty, pos, after, guard } :: rest) a :=
  ⟨v, .inl ⟨hg, fun w hw => by rw [run_callf f fn hf hb hn first captured hx w, show first ++ xs.map a.eval ++ captured = args from Array.ext' (by simpa using ha)]; exact hc w hw⟩, h⟩
theorem Walk.move {Qn : Act → Prop} {a : Act} {rest : List Oper} {dst : Option Tmp} {x : Operand} {ty : TypeId} {pos : String} {after : Array Edge} {guard : Option (Nat × Bool)}
    (hg : Region.wanted { dst, op := .move x, type := ty, pos, after, guard } (yielded ops a.tmps) = true)
    (h : Walk P ops C Qn rest (a.put dst (a.eval x))) : Walk P ops C Qn ({ dst, op := .move x, type := ty, pos, after, guard } :: rest) a :=
  Walk.run hg (fun _ _ => rfl) h
theorem Walk.assign {Qn : Act → Prop} {a : Act} {rest : List Oper} {dst : Option Tmp} {x : Operand} {ty : TypeId} {pos : String} {after : Array Edge} {guard : Option (Nat × Bool)}
    (hg : Region.wanted { dst, op := .assign x, type := ty, pos, after, guard } (yielded ops a.tmps) = true)
    (h : Walk P ops C Qn rest (a.put dst (a.eval x))) : Walk P ops C Qn ({ dst, op := .assign x, type := ty, pos, after, guard } :: rest) a :=
  Walk.run hg (fun _ _ => rfl) h
theorem Walk.skip {Qn : Act → Prop} {a : Act} {o : Oper} {rest : List Oper} (hg : Region.wanted o (yielded ops a.tmps) = false)
    (h : Walk P ops C Qn rest (a.put o.dst undef)) : Walk P ops C Qn (o :: rest) a :=
  ⟨undef, .inr ⟨hg, rfl⟩, h⟩
end
end Go.Flow
end

section
namespace Go.Flow
open Go Go.RowKit
section
variable {P : Program} {ops : Array Oper} {md : Region.Mode}

/-- What the run of one operation comes to. -/
def Goes (P : Program) (K : Value → World → Prop) : Result Next → Prop
  | .ok (.value u) w' => K u w'
  | .ok .skip w' => K undef w'
  | .ok (.enter f args) w' => Calls P f args w' fun e w'' => ∃ v, e = .returned v ∧ K v w''
  | _ => False

theorem Goes.mono {K K' : Value → World → Prop} {r : Result Next} (h : ∀ v w, K v w → K' v w) (hh : Goes P K r) : Goes P K' r := by
  cases r with
  | ok n w' =>
    cases n <;> simp only [Goes] at hh ⊢ <;>
      first
        | exact h _ _ hh
        | exact Calls.mono hh fun _ _ ⟨v, he, hk⟩ => ⟨v, he, h _ _ hk⟩
  | halt x w' => simp only [Goes] at hh

theorem Goes.upon {o : Oper} {a : Act} {K : Act → World → Prop} {K0 : Value → World → Prop} {Q : Exit → Act → World → Prop} {r : Result Next}
    (h : Goes P K0 r) (hK : ∀ v w', K0 v w' → K (a.put o.dst v) w') : o.upon P a K Q r := by
  cases r with
  | ok n w' =>
    cases n <;> simp only [Goes, Oper.upon] at h ⊢
    case value u => exact hK _ _ h
    case skip => exact hK _ _ h
    case enter f args => exact h.mono fun e w'' ⟨v, he, hc⟩ => by subst he; exact hK _ _ hc
  | halt x w' => simp only [Goes] at h

/-- From w on the operation yields v and makes new memory alone. -/
def AtE (P : Program) (ops : Array Oper) (w : World) (o : Oper) (v : Value) (a : Act) : Prop :=
  (Region.wanted o (yielded ops a.tmps) = true ∧ ∀ w1, Ext w w1 → Goes P (fun u w' => u = v ∧ Ext w1 w') ((execOp a.eval o).run P w1)) ∨
  (Region.wanted o (yielded ops a.tmps) = false ∧ undef = v)
theorem AtE.same {w : World} {o : Oper} {v : Value} {a a' : Act} (h : AtE P ops w o v a) (he : execOp a'.eval o = execOp a.eval o)
    (hw : Region.wanted o (yielded ops a'.tmps) = Region.wanted o (yielded ops a.tmps)) : AtE P ops w o v a' := by
  unfold AtE at *
  rw [he, hw]
  exact h
theorem AtE.later {w w' : World} {o : Oper} {v : Value} {a : Act} (h : AtE P ops w o v a) (hE : Ext w w') : AtE P ops w' o v a :=
  h.imp (fun ⟨hw, h⟩ => ⟨hw, fun w1 h1 => h w1 (hE.trans h1)⟩) id

def StE (P : Program) (ops : Array Oper) (i : Nat) (K : Act → World → Prop) (a : Act) (w : World) : Prop :=
  ∃ o, ops[i]? = some o ∧
    ((Region.wanted o (yielded ops a.tmps) = true ∧ Goes P (fun u w' => Ext w w' ∧ K (a.put o.dst u) w') ((execOp a.eval o).run P w)) ∨
     (Region.wanted o (yielded ops a.tmps) = false ∧ K (a.put o.dst undef) w))
theorem StE.mono {i : Nat} {a : Act} {w : World} {K K' : Act → World → Prop} (h : ∀ a w, K a w → K' a w) (hh : StE P ops i K a w) : StE P ops i K' a w :=
  let ⟨o, h1, h2⟩ := hh
  ⟨o, h1, h2.imp (fun ⟨hw, hg⟩ => ⟨hw, hg.mono fun _ _ ⟨h3, h4⟩ => ⟨h3, h _ _ h4⟩⟩) (fun ⟨hw, hk⟩ => ⟨hw, h _ _ hk⟩)⟩
theorem StE.of_at {i : Nat} {o : Oper} {v : Value} {a : Act} {w w0 : World} {K : Act → World → Prop} (hi : ops[i]? = some o) (h : AtE P ops w0 o v a) (hE : Ext w0 w)
    (hK : ∀ w', Ext w w' → K (a.put o.dst v) w') : StE P ops i K a w := by
  refine ⟨o, hi, ?_⟩
  rcases h with ⟨hw, h⟩ | ⟨hw, rfl⟩
  · exact .inl ⟨hw, (h w hE).mono fun u w' ⟨hu, hx⟩ => ⟨hx, hu ▸ hK w' hx⟩⟩
  · exact .inr ⟨hw, hK w (Ext.refl w)⟩
theorem StE.wpOp {i : Nat} {a : Act} {w : World} {K K' : Act → World → Prop} {Q : Exit → Act → World → Prop}
    (h : StE P ops i K a w) (hK : ∀ a' w', Ext w w' → K a' w' → K' a' w') : wpOp P ops Q i K' a w := by
  obtain ⟨o, hi, h⟩ := h
  unfold Go.wpOp
  simp only [hi]
  rcases h with ⟨hw, h⟩ | ⟨hw, h⟩
  · rw [if_pos hw]
    exact .inl (h.upon fun v w' ⟨h1, h2⟩ => hK _ _ h1 h2)
  · rw [if_neg (by simp [hw])]
    exact hK _ _ (Ext.refl w) h

theorem StE.put {j : Nat} {oi oj : Oper} {v : Value} {w w0 : World} (hj : ops[j]? = some oj) (hap : oi.apart ops oj = true)
    (hsi : ∀ cs b, oi.op ≠ .select cs b) (hsj : ∀ cs b, oj.op ≠ .select cs b) {K : Act → World → Prop} {a : Act}
    (hy : AtE P ops w0 oi v a) (h : StE P ops j K (a.put oi.dst v) w) :
    StE P ops j (fun a' w' => AtE P ops w0 oi v a' ∧ K (a'.put oi.dst v) w') a w := by
  obtain ⟨h1, h2, h3⟩ := Oper.apart_spec hap
  obtain ⟨o, ho, h⟩ := h
  have hoj : o = oj := Option.some.inj (ho.symm.trans hj)
  subst hoj
  refine ⟨o, ho, ?_⟩
  have hk : ∀ u w', K ((a.put oi.dst v).put o.dst u) w' → AtE P ops w0 oi v (a.put o.dst u) ∧ K ((a.put o.dst u).put oi.dst v) w' := fun u w' hK => by
    refine ⟨hy.same (execOp_put oi hsi a o.dst u h3) (wanted_put oi a o.dst u h3), ?_⟩
    rw [← Act.put_comm a v u h2]
    exact hK
  rw [execOp_put o hsj a oi.dst v h1, wanted_put o a oi.dst v h1] at h
  exact h.imp (fun ⟨hw, hg⟩ => ⟨hw, hg.mono fun u w' ⟨hx, hK⟩ => ⟨hx, hk u w' hK⟩⟩) (fun ⟨hw, hK⟩ => ⟨hw, hk _ _ hK⟩)

/-- The head operations, in whatever order; L at their end; in whatever later world. -/
def AnyE (P : Program) (md : Region.Mode) (ops : Array Oper) (n : Nat) (L : Array Bool → Act → World → Prop) : Nat → Array Bool → Act → World → Prop
  | 0, listed, a, w => ∀ w1, Ext w w1 → L listed a w1
  | f + 1, listed, a, w => ∀ w1, Ext w w1 →
    Region.ready md ops listed ≠ [] ∧ ∀ i ∈ Region.ready md ops listed, i < n ∧ StE P ops i (AnyE P md ops n L f (listed.setIfInBounds i true)) a w1

theorem AnyE.later {n : Nat} {L : Array Bool → Act → World → Prop} {f : Nat} {listed : Array Bool} {a : Act} {w w' : World} (h : AnyE P md ops n L f listed a w) (hE : Ext w w') : AnyE P md ops n L f listed a w' := by
  cases f with
  | zero => exact fun w1 h1 => h w1 (hE.trans h1)
  | succ f => exact fun w1 h1 => h w1 (hE.trans h1)

theorem wpAny_of_anyE {n g : Nat} {L : Array Bool → Act → World → Prop} {Q : Exit → Act → World → Prop} (hL : ∀ listed a w, L listed a w → wpAny P md ops Q g listed a w) :
    ∀ (f : Nat) (listed : Array Bool) (a : Act) (w : World), AnyE P md ops n L f listed a w → wpAny P md ops Q (f + g) listed a w
  | 0, listed, a, w, h => by rw [Nat.zero_add]; exact hL _ _ _ (h w (Ext.refl w))
  | f + 1, listed, a, w, h => by
    rw [show f + 1 + g = (f + g) + 1 by omega]
    have h := h w (Ext.refl w)
    exact ⟨fun h0 => absurd h0 h.1, fun i hi => (h.2 i hi).2.wpOp fun a' w' _ hk => wpAny_of_anyE hL f _ a' w' hk⟩

theorem anyE_first {n i : Nat} {oi : Oper} {v : Value} {L : Array Bool → Act → World → Prop} (hi : ops[i]? = some oi)
    (hsel : ∀ (j : Nat) (o : Oper) cs b, ops[j]? = some o → o.op ≠ .select cs b)
    (htail : ∀ listed, HeadInv md ops n listed → ∀ i, i < n → listed.getD i true = false → ∀ t, n ≤ t → t ∉ Region.ready md ops listed) (hin : i < n)
    (hdone : ∀ listed a w, L listed a w → ∀ j ∈ Region.ready md ops listed, n ≤ j) :
    ∀ (f : Nat) (listed : Array Bool) (a : Act) (w : World), HeadInv md ops n listed →
      (∀ j oj, ops[j]? = some oj → j ≠ i → listed.getD j true = false → (∀ e ∈ oj.after, Region.binds md e = true → e.on ≠ i) → oi.apart ops oj = true) →
      i ∈ Region.ready md ops listed → AtE P ops w oi v a →
      AnyE P md ops n L f (listed.setIfInBounds i true) (a.put oi.dst v) w → AnyE P md ops n L (f + 1) listed a w := by
  intro f
  induction f with
  | zero =>
    intro listed a w inv _ hr hy H w1 hE
    have hun := (mem_ready.1 hr).1
    refine ⟨fun h => (by rw [h] at hr; cases hr), fun j hj => ?_⟩
    have hjn : j < n := (Nat.lt_or_ge j n).resolve_right fun h => absurd hj (htail _ inv i hin hun j h)
    refine ⟨hjn, ?_⟩
    by_cases hji : j = i
    · subst hji; exact StE.of_at hi hy hE fun w' hE' => AnyE.later H (hE.trans hE')
    · have := hdone _ _ _ (H w1 hE) j (ready_mono hj hji)
      omega
  | succ f ih =>
    intro listed a w inv hfree hr hy H w1 hE
    have hun := (mem_ready.1 hr).1
    refine ⟨fun h => (by rw [h] at hr; cases hr), fun j hj => ?_⟩
    have hjn : j < n := (Nat.lt_or_ge j n).resolve_right fun h => absurd hj (htail _ inv i hin hun j h)
    refine ⟨hjn, ?_⟩
    by_cases hji : j = i
    · subst hji; exact StE.of_at hi hy hE fun w' hE' => AnyE.later H (hE.trans hE')
    · have h1 := ((H w1 hE).2 j (ready_mono hj hji)).2
      obtain ⟨hjun, oj, hoj, hall⟩ := mem_ready.1 hj
      have hnot : ∀ e ∈ oj.after, Region.binds md e = true → e.on ≠ i := fun e he hb heq => by
        have h1 := hall e he hb
        rw [heq, getD_both hun] at h1
        cases h1
      have h2 := StE.put (w0 := w) hoj (hfree j oj hoj hji hjun hnot) (fun cs b => hsel i oi cs b hi) (fun cs b => hsel j oj cs b hoj) hy h1
      have hfree' : ∀ k ok, ops[k]? = some ok → k ≠ i → (listed.setIfInBounds j true).getD k true = false →
          (∀ e ∈ ok.after, Region.binds md e = true → e.on ≠ i) → oi.apart ops ok = true := fun k ok hk hki hun hno => by
        refine hfree k ok hk hki ?_ hno
        by_cases hjk : j = k
        · subst hjk; exact hjun
        · rw [getD_set_ne true hjk] at hun; exact hun
      obtain ⟨o', ho', h2⟩ := h2
      refine ⟨o', ho', ?_⟩
      have step : ∀ u w', Ext w1 w' → (AtE P ops w oi v (a.put o'.dst u) ∧ AnyE P md ops n L f ((listed.setIfInBounds i true).setIfInBounds j true) ((a.put o'.dst u).put oi.dst v) w') →
          AnyE P md ops n L (f + 1) (listed.setIfInBounds j true) (a.put o'.dst u) w' := fun u w' hx ⟨h3, h4⟩ => by
        refine ih (listed.setIfInBounds j true) _ w' (inv.set hj hjn) hfree' (ready_mono hr (Ne.symm hji)) (h3.later (hE.trans hx)) ?_
        rw [Array.setIfInBounds_comm _ _ hji]
        exact h4
      exact h2.imp (fun ⟨hw, hg⟩ => ⟨hw, hg.mono fun u w' ⟨hx, hk⟩ => ⟨hx, step u w' hx hk⟩⟩) (fun ⟨hw, hk⟩ => ⟨hw, step _ _ (Ext.refl w1) hk⟩)

/-- The walk along a given order: (k, true): an operation that yields one value from here on; (k, false): one that alone may come up. -/
def WalkE (P : Program) (ops : Array Oper) (Qn : Act → World → Prop) : List (Nat × Bool) → Act → World → Prop
  | [], a, w => ∀ w1, Ext w w1 → Qn a w1
  | (k, true) :: s, a, w => ∃ o v, ops[k]? = some o ∧ AtE P ops w o v a ∧ WalkE P ops Qn s (a.put o.dst v) w
  | (k, false) :: s, a, w => ∀ w1, Ext w w1 → StE P ops k (WalkE P ops Qn s) a w1

def okSeq (ops : Array Oper) (n : Nat) : List (Nat × Bool) → Array Bool → Bool
  | [], listed => Region.seqB .any ops (ops.size - n) n listed
  | (k, b) :: s, listed => decide (k < n) && (Region.ready .any ops listed).contains k &&
      (if b then Region.free .any ops listed k else decide (Region.ready .any ops listed = [k])) && okSeq ops n s (listed.setIfInBounds k true)

theorem anyE_walk {n : Nat} {Lq : Act → World → Prop} (hsel : Region.noSelect ops = true)
    (htail : ∀ listed, HeadInv .any ops n listed → ∀ i, i < n → listed.getD i true = false → ∀ t, n ≤ t → t ∉ Region.ready .any ops listed) :
    ∀ (s : List (Nat × Bool)) (listed : Array Bool) (a : Act) (w : World), HeadInv .any ops n listed → okSeq ops n s listed = true → WalkE P ops Lq s a w →
      AnyE P .any ops n (fun listed' a' w' => Region.seqB .any ops (ops.size - n) n listed' = true ∧ Lq a' w') s.length listed a w
  | [], listed, a, w, _, hB, h => fun w1 h1 => ⟨hB, h w1 h1⟩
  | (k, true) :: s, listed, a, w, inv, hB, h => by
    simp only [okSeq, Bool.and_eq_true, decide_eq_true_eq, if_true] at hB
    obtain ⟨⟨⟨hkn, hr⟩, hf⟩, hB'⟩ := hB
    have hr' : k ∈ Region.ready .any ops listed := by simpa using hr
    obtain ⟨o, v, ho, hat, hK⟩ := h
    exact anyE_first ho (Region.noSelect_spec hsel) htail hkn (fun listed' a' w' hL => seqB_ready hL.1) s.length listed a w inv (Region.free_spec ho hf) hr' hat
      (anyE_walk hsel htail s _ _ w (inv.set hr' hkn) hB' hK)
  | (k, false) :: s, listed, a, w, inv, hB, h => by
    simp only [okSeq, Bool.and_eq_true, decide_eq_true_eq, Bool.false_eq_true, if_false] at hB
    obtain ⟨⟨⟨hkn, hr⟩, hf⟩, hB'⟩ := hB
    have hr' : k ∈ Region.ready .any ops listed := by simpa using hr
    intro w1 h1
    refine ⟨by rw [hf]; simp, fun i hi => ?_⟩
    rw [hf] at hi
    obtain rfl : i = k := by simpa using hi
    exact ⟨hkn, (h w1 h1).mono fun a' w' hk => anyE_walk hsel htail s _ a' w' (inv.set hr' hkn) hB' hk⟩

/-- The same along the operations themselves. -/
def WalkL (P : Program) (ops : Array Oper) (Qn : Act → World → Prop) : List (Oper × Bool) → Act → World → Prop
  | [], a, w => ∀ w1, Ext w w1 → Qn a w1
  | (o, true) :: s, a, w => ∃ v, AtE P ops w o v a ∧ WalkL P ops Qn s (a.put o.dst v) w
  | (o, false) :: s, a, w => ∀ w1, Ext w w1 →
      ((Region.wanted o (yielded ops a.tmps) = true ∧ Goes P (fun u w' => Ext w1 w' ∧ WalkL P ops Qn s (a.put o.dst u) w') ((execOp a.eval o).run P w1)) ∨
       (Region.wanted o (yielded ops a.tmps) = false ∧ WalkL P ops Qn s (a.put o.dst undef) w1))

theorem WalkL.toE {l : List Oper} {Qn : Act → World → Prop} {n : Nat} : ∀ (s : List (Nat × Bool)) (listed : Array Bool) (a : Act) (w : World), okSeq l.toArray n s listed = true →
    WalkL P l.toArray Qn (s.map fun x => (l.getD x.1 default, x.2)) a w → WalkE P l.toArray Qn s a w
  | [], _, _, _, _, h => h
  | (k, b) :: s, listed, a, w, hB, h => by
    simp only [okSeq, Bool.and_eq_true, decide_eq_true_eq] at hB
    obtain ⟨⟨⟨_, hr⟩, _⟩, hB'⟩ := hB
    have hr' : k ∈ Region.ready .any l.toArray listed := by simpa using hr
    obtain ⟨_, o, ho, _⟩ := mem_ready.1 hr'
    have hl : l.getD k default = o := by
      have : l[k]? = some o := by simpa using ho
      simp [List.getD, this]
    simp only [List.map_cons, hl] at h
    cases b with
    | true =>
      obtain ⟨v, hat, hk⟩ := h
      exact ⟨o, v, ho, hat, WalkL.toE s _ _ _ hB' hk⟩
    | false =>
      intro w1 h1
      exact ⟨o, ho, (h w1 h1).imp (fun ⟨hw, hg⟩ => ⟨hw, hg.mono fun u w' ⟨hx, hk⟩ => ⟨hx, WalkL.toE s _ _ _ hB' hk⟩⟩) (fun ⟨hw, hk⟩ => ⟨hw, WalkL.toE s _ _ _ hB' hk⟩)⟩

def okFlow (ops : Array Oper) (n : Nat) (s : List (Nat × Bool)) : Bool :=
  Region.noSelect ops && decide (n ≤ ops.size) && (decide (n = ops.size) || (Region.sinkB .any ops n && Region.chainB .any ops n)) &&
    decide (s.length = n) && okSeq ops n s (Array.replicate ops.size false)

theorem wp_flow {id : Nat} {Q : Exit → Act → World → Prop} {a : Act} {w : World} {l : List Oper} (n : Nat) (s : List (Nat × Bool)) (hm : P.follows .mixedOrders = true) (hB : okFlow l.toArray n s = true)
    (h : WalkL P l.toArray (fun a' w' => wpList P l.toArray Q (l.drop n) a' w') (s.map fun x => (l.getD x.1 default, x.2)) a w) : (Code.region id l.toArray true).wp P Q a w := by
  simp only [okFlow, Bool.and_eq_true, Bool.or_eq_true, decide_eq_true_eq] at hB
  obtain ⟨⟨⟨⟨hsel, hn⟩, hs⟩, hlen⟩, hseq⟩ := hB
  have hn' : n ≤ l.length := by simpa using hn
  have hdl : (l.drop n).length = l.toArray.size - n := by simp
  have inv0 : HeadInv .any l.toArray n (Array.replicate l.toArray.size false) :=
    ⟨by simp, fun j oj _ hl => (by rw [getD_replicate_false] at hl; cases hl), fun t _ ht => getD_in (by simpa using ht) (getD_replicate_false _ _)⟩
  have htail : ∀ listed, HeadInv .any l.toArray n listed → ∀ i, i < n → listed.getD i true = false → ∀ t, n ≤ t → t ∉ Region.ready .any l.toArray listed := by
    intro listed inv i hi hun t ht
    by_cases hsz : n < l.toArray.size
    · rcases hs with hs | hs
      · omega
      · exact tail_waits hs.1 hs.2 hsz inv _ i rfl hi hun t ht
    · intro hr
      obtain ⟨_, o, ho, _⟩ := mem_ready.1 hr
      have := (Array.getElem?_eq_some_iff.1 ho).1
      omega
  replace h := WalkL.toE (l := l) s _ a w hseq h
  have hdrew : WalkE P l.toArray (fun a' w' => wpList P l.toArray Q (l.drop n) a' w') s a w.drew := by
    have hE : Ext w w.drew := (Ext.refl w).drew
    have go : ∀ (s : List (Nat × Bool)) (a : Act), WalkE P l.toArray (fun a' w' => wpList P l.toArray Q (l.drop n) a' w') s a w → WalkE P l.toArray (fun a' w' => wpList P l.toArray Q (l.drop n) a' w') s a w.drew := by
      intro s
      induction s with
      | nil => exact fun a h w1 h1 => h w1 (hE.trans h1)
      | cons x s ih =>
        obtain ⟨k, b⟩ := x
        cases b with
        | true => exact fun a ⟨o, v, ho, hat, hk⟩ => ⟨o, v, ho, hat.later hE, ih _ hk⟩
        | false => exact fun a h w1 h1 => h w1 (hE.trans h1)
    exact go s a h
  have H := anyE_walk hsel htail s _ a w.drew inv0 hseq hdrew
  refine wp_region_any hm ?_
  have := wpAny_of_anyE (Q := Q) (g := l.toArray.size - n) (fun listed a' w' hL => by
    have := wpAny_of_seq (md := .any) (Q' := Q) (l.drop n) n listed a' w' (fun j => by simp [List.getElem?_drop]) (by rw [hdl]; exact hL.1) hL.2
    rwa [hdl] at this) _ _ _ _ H
  rw [hlen, show n + (l.toArray.size - n) = l.toArray.size by omega] at this
  exact this

/-- The same as 'okSeq', up to where two operations may come up. -/
def okStep (ops : Array Oper) (n k : Nat) (b : Bool) (listed : Array Bool) : Bool := decide (k < n) && (Region.ready .any ops listed).contains k &&
      (if b then Region.free .any ops listed k else decide (Region.ready .any ops listed = [k]))
def okPre (ops : Array Oper) (n : Nat) : List (Nat × Bool) → Array Bool → Option (Array Bool)
  | [], listed => some listed
  | (k, b) :: s, listed => match okStep ops n k b listed with
    | true => okPre ops n s (listed.setIfInBounds k true)
    | false => none
def okFork (ops : Array Oper) (n : Nat) (s : List (Nat × Bool)) (i j : Nat) (s1 s2 : List (Nat × Bool)) : Bool :=
  Region.noSelect ops && decide (n ≤ ops.size) && (decide (n = ops.size) || (Region.sinkB .any ops n && Region.chainB .any ops n)) &&
    decide (s.length + (1 + s1.length) = n) && decide (s1.length = s2.length) &&
    (match okPre ops n s (Array.replicate ops.size false) with
     | none => false
     | some listed => decide (i < n) && decide (j < n) && decide (Region.ready .any ops listed = [i, j]) && okSeq ops n s1 (listed.setIfInBounds i true) && okSeq ops n s2 (listed.setIfInBounds j true))

theorem anyE_pre {n f : Nat} {L : Array Bool → Act → World → Prop} (hsel : Region.noSelect ops = true)
    (htail : ∀ listed, HeadInv .any ops n listed → ∀ i, i < n → listed.getD i true = false → ∀ t, n ≤ t → t ∉ Region.ready .any ops listed)
    (hdone : ∀ listed a w, L listed a w → ∀ j ∈ Region.ready .any ops listed, n ≤ j) {B : Act → World → Prop} {listed' : Array Bool} :
    ∀ (s : List (Nat × Bool)) (listed : Array Bool) (a : Act) (w : World), HeadInv .any ops n listed → okPre ops n s listed = some listed' →
      (HeadInv .any ops n listed' → ∀ a w, (∀ w1, Ext w w1 → B a w1) → AnyE P .any ops n L f listed' a w) → WalkE P ops B s a w → AnyE P .any ops n L (s.length + f) listed a w
  | [], listed, a, w, inv, hB, hL, h => by
    have : listed = listed' := by simpa [okPre] using hB
    subst this
    rw [List.length_nil, Nat.zero_add]
    exact hL inv a w h
  | (k, true) :: s, listed, a, w, inv, hB, hL, h => by
    cases hc : okStep ops n k true listed
    · simp [okPre, hc] at hB
    · simp only [okPre, hc] at hB
      simp only [okStep, Bool.and_eq_true, decide_eq_true_eq, if_true] at hc
      obtain ⟨⟨hkn, hr⟩, hf⟩ := hc
      have hr' : k ∈ Region.ready .any ops listed := by simpa using hr
      obtain ⟨o, v, ho, hat, hK⟩ := h
      rw [List.length_cons, show s.length + 1 + f = (s.length + f) + 1 by omega]
      exact anyE_first ho (Region.noSelect_spec hsel) htail hkn hdone (s.length + f) listed a w inv (Region.free_spec ho hf) hr' hat
        (anyE_pre hsel htail hdone s _ _ w (inv.set hr' hkn) hB hL hK)
  | (k, false) :: s, listed, a, w, inv, hB, hL, h => by
    cases hc : okStep ops n k false listed
    · simp [okPre, hc] at hB
    · simp only [okPre, hc] at hB
      simp only [okStep, Bool.and_eq_true, decide_eq_true_eq, Bool.false_eq_true, if_false] at hc
      obtain ⟨⟨hkn, hr⟩, hf⟩ := hc
      have hr' : k ∈ Region.ready .any ops listed := by simpa using hr
      rw [List.length_cons, show s.length + 1 + f = (s.length + f) + 1 by omega]
      intro w1 h1
      refine ⟨by rw [hf]; simp, fun i hi => ?_⟩
      rw [hf] at hi
      obtain rfl : i = k := by simpa using hi
      exact ⟨hkn, (h w1 h1).mono fun a' w' hk => anyE_pre hsel htail hdone s _ a' w' (inv.set hr' hkn) hB hL hk⟩

theorem okPre_mem {l : List Oper} {n : Nat} {listed' : Array Bool} : ∀ (s : List (Nat × Bool)) (listed : Array Bool), okPre l.toArray n s listed = some listed' →
    ∀ {Qn : Act → World → Prop} (a : Act) (w : World), WalkL P l.toArray Qn (s.map fun x => (l.getD x.1 default, x.2)) a w → WalkE P l.toArray Qn s a w
  | [], _, _, _, _, _, h => h
  | (k, b) :: s, listed, hB, Qn, a, w, h => by
    cases hc : okStep l.toArray n k b listed
    · simp [okPre, hc] at hB
    · simp only [okPre, hc] at hB
      simp only [okStep, Bool.and_eq_true, decide_eq_true_eq] at hc
      obtain ⟨⟨_, hr⟩, _⟩ := hc
      have hr' : k ∈ Region.ready .any l.toArray listed := by simpa using hr
      obtain ⟨_, o, ho, _⟩ := mem_ready.1 hr'
      have hl : l.getD k default = o := by
        have : l[k]? = some o := by simpa using ho
        simp [List.getD, this]
      simp only [List.map_cons, hl] at h
      cases b with
      | true =>
        obtain ⟨v, hat, hk⟩ := h
        exact ⟨o, v, ho, hat, okPre_mem s _ hB _ _ hk⟩
      | false =>
        intro w1 h1
        exact ⟨o, ho, (h w1 h1).imp (fun ⟨hw, hg⟩ => ⟨hw, hg.mono fun u w' ⟨hx, hk⟩ => ⟨hx, okPre_mem s _ hB _ _ hk⟩⟩) (fun ⟨hw, hk⟩ => ⟨hw, okPre_mem s _ hB _ _ hk⟩)⟩

/-- Behind s two operations may come up, i and j, neither of which yields one value: both orders. -/
theorem wp_fork {id : Nat} {Q : Exit → Act → World → Prop} {a : Act} {w : World} {l : List Oper} (n : Nat) (s : List (Nat × Bool)) (i j : Nat) (s1 s2 : List (Nat × Bool)) (hm : P.follows .mixedOrders = true)
    (hB : okFork l.toArray n s i j s1 s2 = true)
    (h : WalkL P l.toArray (fun a' w' =>
      WalkL P l.toArray (fun a' w' => wpList P l.toArray Q (l.drop n) a' w') (((i, false) :: s1).map fun x => (l.getD x.1 default, x.2)) a' w' ∧
      WalkL P l.toArray (fun a' w' => wpList P l.toArray Q (l.drop n) a' w') (((j, false) :: s2).map fun x => (l.getD x.1 default, x.2)) a' w') (s.map fun x => (l.getD x.1 default, x.2)) a w) : (Code.region id l.toArray true).wp P Q a w := by
  simp only [okFork, Bool.and_eq_true, Bool.or_eq_true, decide_eq_true_eq] at hB
  obtain ⟨⟨⟨⟨⟨hsel, hn⟩, hs⟩, hlen⟩, hlen2⟩, hpre⟩ := hB
  have hn' : n ≤ l.length := by simpa using hn
  have hdl : (l.drop n).length = l.toArray.size - n := by simp
  have inv0 : HeadInv .any l.toArray n (Array.replicate l.toArray.size false) :=
    ⟨by simp, fun j oj _ hl => (by rw [getD_replicate_false] at hl; cases hl), fun t _ ht => getD_in (by simpa using ht) (getD_replicate_false _ _)⟩
  have htail : ∀ listed, HeadInv .any l.toArray n listed → ∀ i, i < n → listed.getD i true = false → ∀ t, n ≤ t → t ∉ Region.ready .any l.toArray listed := by
    intro listed inv i hi hun t ht
    by_cases hsz : n < l.toArray.size
    · rcases hs with hs | hs
      · omega
      · exact tail_waits hs.1 hs.2 hsz inv _ i rfl hi hun t ht
    · intro hr
      obtain ⟨_, o, ho, _⟩ := mem_ready.1 hr
      have := (Array.getElem?_eq_some_iff.1 ho).1
      omega
  cases hp : okPre l.toArray n s (Array.replicate l.toArray.size false) with
  | none => rw [hp] at hpre; cases hpre
  | some listed =>
    rw [hp] at hpre
    simp only [Bool.and_eq_true, decide_eq_true_eq] at hpre
    obtain ⟨⟨⟨⟨hi, hj⟩, hrd⟩, hs1⟩, hs2⟩ := hpre
    have hE := okPre_mem s _ hp _ _ h
    have hEd : WalkE P l.toArray (fun a' w' =>
      WalkL P l.toArray (fun a' w' => wpList P l.toArray Q (l.drop n) a' w') (((i, false) :: s1).map fun x => (l.getD x.1 default, x.2)) a' w' ∧
      WalkL P l.toArray (fun a' w' => wpList P l.toArray Q (l.drop n) a' w') (((j, false) :: s2).map fun x => (l.getD x.1 default, x.2)) a' w') s a w.drew := by
      have hEx : Ext w w.drew := (Ext.refl w).drew
      have go : ∀ {B : Act → World → Prop} (s : List (Nat × Bool)) (a : Act), WalkE P l.toArray B s a w → WalkE P l.toArray B s a w.drew := by
        intro B s
        induction s with
        | nil => exact fun a h w1 h1 => h w1 (hEx.trans h1)
        | cons x s ih =>
          obtain ⟨k, b⟩ := x
          cases b with
          | true => exact fun a ⟨o, v, ho, hat, hk⟩ => ⟨o, v, ho, hat.later hEx, ih _ hk⟩
          | false => exact fun a h w1 h1 => h w1 (hEx.trans h1)
      exact go s a hE
    have get : ∀ (k : Nat) (s' : List (Nat × Bool)), k ∈ Region.ready .any l.toArray listed → k < n → HeadInv .any l.toArray n listed → okSeq l.toArray n s' (listed.setIfInBounds k true) = true → ∀ (a : Act) (w1 : World),
        WalkL P l.toArray (fun a' w' => wpList P l.toArray Q (l.drop n) a' w') (((k, false) :: s').map fun x => (l.getD x.1 default, x.2)) a w1 →
        StE P l.toArray k (AnyE P .any l.toArray n (fun listed' a' w' => Region.seqB .any l.toArray (l.toArray.size - n) n listed' = true ∧ wpList P l.toArray Q (l.drop n) a' w') s'.length (listed.setIfInBounds k true)) a w1 := by
      intro k s' hr hkn inv hok a w1 hw
      obtain ⟨_, o, ho, _⟩ := mem_ready.1 hr
      have hl : l.getD k default = o := by
        have : l[k]? = some o := by simpa using ho
        simp [List.getD, this]
      simp only [List.map_cons, hl] at hw
      have fin : ∀ (a' : Act) (w' : World), WalkL P l.toArray (fun a' w' => wpList P l.toArray Q (l.drop n) a' w') (s'.map fun x => (l.getD x.1 default, x.2)) a' w' → AnyE P .any l.toArray n (fun listed' a' w' => Region.seqB .any l.toArray (l.toArray.size - n) n listed' = true ∧ wpList P l.toArray Q (l.drop n) a' w') s'.length (listed.setIfInBounds k true) a' w' :=
        fun a' w' hk => anyE_walk hsel htail s' _ a' w' (inv.set hr hkn) hok (WalkL.toE s' _ _ _ hok hk)
      exact ⟨o, ho, (hw w1 (Ext.refl w1)).imp (fun ⟨hwt, hg⟩ => ⟨hwt, hg.mono fun u w' ⟨hx, hk⟩ => ⟨hx, fin _ _ hk⟩⟩) (fun ⟨hwt, hk⟩ => ⟨hwt, fin _ _ hk⟩)⟩
    have H := anyE_pre (f := 1 + s1.length) (L := fun listed' a' w' => Region.seqB .any l.toArray (l.toArray.size - n) n listed' = true ∧ wpList P l.toArray Q (l.drop n) a' w') hsel htail (fun listed' a' w' hL => seqB_ready hL.1) s _ a w.drew inv0 hp (fun inv a w hb => by
      rw [Nat.add_comm]
      intro w1 h1
      refine ⟨by rw [hrd]; simp, fun k hk => ?_⟩
      have hk' := hk
      rw [hrd] at hk
      obtain ⟨hb1, hb2⟩ := hb w1 h1
      rcases List.mem_cons.1 hk with rfl | hk
      · exact ⟨hi, get _ s1 hk' hi inv hs1 a w1 hb1⟩
      · obtain rfl : k = j := by simpa using hk
        rw [hlen2]
        exact ⟨hj, get _ s2 hk' hj inv hs2 a w1 hb2⟩) hEd
    refine wp_region_any hm ?_
    have := wpAny_of_anyE (Q := Q) (g := l.toArray.size - n) (fun listed a' w' hL => by
      have := wpAny_of_seq (md := .any) (Q' := Q) (l.drop n) n listed a' w' (fun j => by simp [List.getElem?_drop]) (by rw [hdl]; exact hL.1) hL.2
      rwa [hdl] at this) _ _ _ _ H
    rw [hlen, show n + (l.toArray.size - n) = l.toArray.size by omega] at this
    exact this

variable {Qn : Act → World → Prop} {s : List (Oper × Bool)} {a : Act} {w : World} {v : Value}
theorem WalkL.nil (h : ∀ w1, Ext w w1 → Qn a w1) : WalkL P ops Qn [] a w := h
theorem WalkL.run {o : Oper} (hg : Region.wanted o (yielded ops a.tmps) = true)
    (hr : ∀ w1, Ext w w1 → (execOp a.eval o).run P w1 = .ok (.value v) w1) (h : WalkL P ops Qn s (a.put o.dst v) w) : WalkL P ops Qn ((o, true) :: s) a w :=
  ⟨v, .inl ⟨hg, fun w1 h1 => by rw [hr w1 h1]; exact ⟨rfl, Ext.refl w1⟩⟩, h⟩
theorem WalkL.skip {o : Oper} (hg : Region.wanted o (yielded ops a.tmps) = false)
    (h : WalkL P ops Qn s (a.put o.dst undef) w) : WalkL P ops Qn ((o, true) :: s) a w :=
  ⟨undef, .inr ⟨hg, rfl⟩, h⟩
theorem WalkL.move {dst : Option Tmp} {x : Operand} {ty : TypeId} {pos : String} {after : Array Edge} {guard : Option (Nat × Bool)}
    (hg : Region.wanted { dst, op := .move x, type := ty, pos, after, guard } (yielded ops a.tmps) = true)
    (h : WalkL P ops Qn s (a.put dst (a.eval x)) w) : WalkL P ops Qn (({ dst, op := .move x, type := ty, pos, after, guard }, true) :: s) a w :=
  WalkL.run hg (fun _ _ => rfl) h
theorem WalkL.assign {dst : Option Tmp} {x : Operand} {ty : TypeId} {pos : String} {after : Array Edge} {guard : Option (Nat × Bool)}
    (hg : Region.wanted { dst, op := .assign x, type := ty, pos, after, guard } (yielded ops a.tmps) = true)
    (h : WalkL P ops Qn s (a.put dst (a.eval x)) w) : WalkL P ops Qn (({ dst, op := .assign x, type := ty, pos, after, guard }, true) :: s) a w :=
  WalkL.run hg (fun _ _ => rfl) h
theorem WalkL.callf {dst : Option Tmp} {x : Operand} {xs : Array Operand} {ats : Array TypeId} {ty : TypeId} {pos : String} {after : Array Edge} {guard : Option (Nat × Bool)}
    {f : FuncId} {fn : Func} (hf : P.funcs[f]? = some fn) (hb : fn.body.isNone = false) (hn : (fn.name == "runtime.NumGoroutine") = false) {args : Array Value}
    {first captured : Array Value} (hx : a.eval x = .func (.func f) first captured)
    (hc : ∀ w1, Ext w w1 → Calls P f args w1 fun e w' => e = .returned v ∧ Ext w1 w')
    (ha : first.toList ++ xs.toList.map a.eval ++ captured.toList = args.toList)
    (hg : Region.wanted { dst, op := .call { callee := .value x, args := xs, argTypes := ats }, type := ty, pos, after, guard } (yielded ops a.tmps) = true)
    (h : WalkL P ops Qn s (a.put dst v) w) : WalkL P ops Qn (({ dst, op := .call { callee := .value x, args := xs, argTypes := ats }, type := ty, pos, after, guard }, true) :: s) a w :=
  ⟨v, .inl ⟨hg, fun w1 h1 => by
    rw [run_callf f fn hf hb hn first captured hx w1, show first ++ xs.map a.eval ++ captured = args from Array.ext' (by simpa using ha)]
    exact (hc w1 h1).mono fun _ _ ⟨he, hx⟩ => ⟨v, he, rfl, hx⟩⟩, h⟩
theorem WalkL.openf {dst : Option Tmp} {x : Operand} {xs : Array Operand} {ats : Array TypeId} {ty : TypeId} {pos : String} {after : Array Edge} {guard : Option (Nat × Bool)}
    {f : FuncId} {fn : Func} (hf : P.funcs[f]? = some fn) (hb : fn.body.isNone = false) (hn : (fn.name == "runtime.NumGoroutine") = false) {args : List Value}
    {first captured : Array Value} (hx : a.eval x = .func (.func f) first captured)
    (ha : first.toList ++ xs.toList.map a.eval ++ captured.toList = args)
    (hg : Region.wanted { dst, op := .call { callee := .value x, args := xs, argTypes := ats }, type := ty, pos, after, guard } (yielded ops a.tmps) = true)
    (hc : ∀ w1, Ext w w1 → Calls P f args.toArray w1 fun e w2 => ∃ v, e = .returned v ∧ Ext w1 w2 ∧ WalkL P ops Qn s (a.put dst v) w2) :
    WalkL P ops Qn (({ dst, op := .call { callee := .value x, args := xs, argTypes := ats }, type := ty, pos, after, guard }, false) :: s) a w :=
  fun w1 h1 => .inl ⟨hg, by
    rw [run_callf f fn hf hb hn first captured hx w1, show first ++ xs.map a.eval ++ captured = args.toArray from Array.ext' (by simpa using ha)]
    exact (hc w1 h1)⟩
theorem keep {f : FuncId} {args : Array Value} {v : Value} {w : World} (h : Calls P f args w fun e w' => e = .returned v ∧ w = w') : Calls P f args w fun e w' => e = .returned v ∧ Ext w w' :=
  h.mono fun _ _ ⟨he, hw⟩ => ⟨he, hw ▸ Ext.refl w⟩
end
end Go.Flow
end

section
namespace Go.Flow
open Go Go.RowKit

/-- Block g is the cells cs, of elements of type t; none is frozen. -/
def Blk (w : World) (g : Nat) (t : TypeId) (cs : Array Value) : Prop := w.heap[g]? = some (.cells cs t (0, 0))

section
variable {w w' W : World} {g : Nat} {t : TypeId} {cs : Array Value}
theorem Blk.lt (h : Blk w g t cs) : g < w.heap.size := (Array.getElem?_eq_some_iff.1 (show w.heap[g]? = some _ from h)).1
theorem Blk.cell (h : Blk w g t cs) (i : Nat) : w.cell? ⟨g, i, none⟩ = cs[i]? := cell_of_row w g i cs t (0, 0) h
theorem Blk.frozen (h : Blk w g t cs) (i : Nat) : w.frozen? ⟨g, i, none⟩ = false := by
  unfold Blk at h
  simp [World.frozen?, h]
theorem Blk.ext (h : Blk w g t cs) (hE : Ext w w') : Blk w' g t cs := Ext.block hE h
theorem Blk.new (w : World) (t : TypeId) (cs : Array Value) : Blk (w.alloc (.cells cs t)) w.heap.size t cs := heap_alloc_new w _
theorem Blk.new' {g : Nat} (hg : g = w.heap.size) (t : TypeId) (cs : Array Value) : Blk (w.alloc (.cells cs t)) g t cs := hg ▸ Blk.new w t cs
theorem Blk.drew (h : Blk w g t cs) : Blk w.drew g t cs := h
theorem Blk.alloc (h : Blk w g t cs) (o : Obj) : Blk (w.alloc o) g t cs := (Below.heap_alloc w o g h.lt).trans h
theorem Blk.set_ (h : Blk w g t cs) (i : Nat) (u : Value) : Blk (w.setCell ⟨g, i, none⟩ u) g t (cs.setIfInBounds i u) := by
  unfold Blk at h ⊢
  simp [World.setCell, Array.getElem?_modify, h]
theorem Blk.far (h : Blk w g t cs) {p : Addr} (hp : g ≠ p.block) (u : Value) : Blk (w.setCell p u) g t cs := (Below.heap_setCell w p u g hp).trans h

/-- Four cells of one block are written. -/
theorem Blk.set4 {a b c d a' b' c' d' : Value} (h : Blk w g t #[a, b, c, d]) : Blk ((((w.setCell ⟨g, 0, none⟩ a').setCell ⟨g, 1, none⟩ b').setCell ⟨g, 2, none⟩ c').setCell ⟨g, 3, none⟩ d') g t #[a', b', c', d'] := by
  have := (((h.set_ 0 a').set_ 1 b').set_ 2 c').set_ 3 d'
  simpa using this
theorem Blk.far4 {k : Nat} {a' b' c' d' : Value} (h : Blk w g t cs) (hne : g ≠ k) : Blk ((((w.setCell ⟨k, 0, none⟩ a').setCell ⟨k, 1, none⟩ b').setCell ⟨k, 2, none⟩ c').setCell ⟨k, 3, none⟩ d') g t cs :=
  (((h.far hne a').far hne b').far hne c').far hne d'
theorem Ext.set4 {k : Nat} {a' b' c' d' : Value} (h : Ext W w) (hk : W.heap.size ≤ k) : Ext W ((((w.setCell ⟨k, 0, none⟩ a').setCell ⟨k, 1, none⟩ b').setCell ⟨k, 2, none⟩ c').setCell ⟨k, 3, none⟩ d') :=
  (((h.setCell hk a').setCell hk b').setCell hk c').setCell hk d'

/-- Rules for the walk: what is known of an elder world is known of the world at hand. -/
theorem Blk.rules (h : Blk w g t cs) : (∀ i, w.cell? ⟨g, i, none⟩ = cs[i]?) ∧ (∀ i, w.frozen? ⟨g, i, none⟩ = false) ∧ g < w.heap.size := ⟨h.cell, h.frozen, h.lt⟩
end
theorem Ext.rules {W w : World} (h : Ext W w) : (∀ p : Addr, p.block < W.heap.size → w.cell? p = W.cell? p) ∧ (∀ p : Addr, p.block < W.heap.size → w.frozen? p = W.frozen? p) :=
  ⟨fun _ hp => Below.cell h hp, fun _ hp => Below.frozen h hp⟩
theorem block_add (a : Addr) (n : Nat) : (a.add n).block = a.block := by unfold Addr.add; split <;> rfl

theorem lt_of_cell {w : World} {a : Addr} {k : Nat} {v : Value} (h : w.cell? (a.add k) = some v) : a.block < w.heap.size := by
  have := World.block_lt_of_cell? w _ h; rwa [block_add] at this

/-- A slice's array, as a function of the index: n elements of one cell, that hold F. -/
def Arr (w : World) (A : Option Addr) (n : Nat) (F : Nat → Value) : Prop := ∀ k, k < n → ∃ ad, A = some ad ∧ w.cell? (ad.add k) = some (F k)
abbrev Ints (w : World) (A : Option Addr) (n : Nat) (f : Nat → Int) : Prop := Arr w A n fun k => .int .i64 (f k)
abbrev Bools (w : World) (A : Option Addr) (n : Nat) (f : Nat → Bool) : Prop := Arr w A n fun k => .bool (f k)
theorem Arr.ext {w w' : World} {A : Option Addr} {n : Nat} {F : Nat → Value} (h : Arr w A n F) (hE : Ext w w') : Arr w' A n F := fun k hk =>
  let ⟨ad, e, hc⟩ := h k hk
  ⟨ad, e, hE.cell hc⟩
theorem Arr.congr {w : World} {A : Option Addr} {n : Nat} {F G : Nat → Value} (h : Arr w A n F) (hg : ∀ k, k < n → F k = G k) : Arr w A n G := fun k hk =>
  let ⟨ad, e, hc⟩ := h k hk
  ⟨ad, e, hg k hk ▸ hc⟩
theorem Arr.zero (w : World) (A : Option Addr) (F : Nat → Value) : Arr w A 0 F := fun k hk => absurd hk (by omega)
/-- Block g is n cells of elements of type t that hold F. -/
def Own (w : World) (g : Nat) (t : TypeId) (n : Nat) (F : Nat → Value) : Prop := ∃ cs, Blk w g t cs ∧ cs.size = n ∧ ∀ k, k < n → cs[k]? = some (F k)
def upd (F : Nat → Value) (i : Nat) (v : Value) : Nat → Value := fun k => if k = i then v else F k
section
variable {w w' : World} {g : Nat} {t : TypeId} {n : Nat} {F G : Nat → Value}
theorem Own.lt (h : Own w g t n F) : g < w.heap.size := let ⟨_, hb, _⟩ := h; hb.lt
theorem Own.ext (h : Own w g t n F) (hE : Ext w w') : Own w' g t n F := let ⟨cs, hb, hr⟩ := h; ⟨cs, hb.ext hE, hr⟩
theorem Own.cell (h : Own w g t n F) {k : Nat} (hk : k < n) : w.cell? ⟨g, k, none⟩ = some (F k) := let ⟨_, hb, _, hc⟩ := h; (hb.cell k).trans (hc k hk)
theorem Own.frozen (h : Own w g t n F) (k : Nat) : w.frozen? ⟨g, k, none⟩ = false := let ⟨_, hb, _⟩ := h; hb.frozen k
theorem Own.congr (h : Own w g t n F) (hg : ∀ k, k < n → F k = G k) : Own w g t n G := let ⟨cs, hb, hs, hc⟩ := h; ⟨cs, hb, hs, fun k hk => by rw [hc k hk, hg k hk]⟩
theorem Own.set_ (h : Own w g t n F) (i : Nat) (v : Value) : Own (w.setCell ⟨g, i, none⟩ v) g t n (upd F i v) := by
  obtain ⟨cs, hb, hs, hc⟩ := h
  refine ⟨_, hb.set_ i v, by simpa using hs, fun k hk => ?_⟩
  unfold upd
  by_cases e : k = i
  · subst e; simp [hs, hk]
  · rw [if_neg e, Array.getElem?_setIfInBounds_ne (Ne.symm e)]; exact hc k hk
theorem Own.far (h : Own w g t n F) {p : Addr} (hp : g ≠ p.block) (u : Value) : Own (w.setCell p u) g t n F := let ⟨cs, hb, hr⟩ := h; ⟨cs, hb.far hp u, hr⟩
theorem Own.arr (h : Own w g t n F) : Arr w (some ⟨g, 0, none⟩) n F := fun k hk => ⟨_, rfl, by
  rw [show (⟨g, 0, none⟩ : Addr).add k = ⟨g, k, none⟩ by unfold Addr.add; split <;> simp_all]; exact h.cell hk⟩
end

/-- Only block g of what was there may have changed. -/
abbrev Only (w w' : World) (g : Nat) : Prop := w.grownBy w' (some g)
theorem Only.refl (w : World) (g : Nat) : Only w w g := ⟨rfl, rfl, rfl, Nat.le_refl _, fun _ _ _ => rfl⟩
theorem Only.trans {a b c : World} {g : Nat} (h : Only a b g) (k : Only b c g) : Only a c g :=
  ⟨k.os.trans h.os, k.tape.trans h.tape, k.output.trans h.output, Nat.le_trans h.size k.size, fun i hi hne => (k.block i (Nat.lt_of_lt_of_le hi h.size) hne).trans (h.block i hi hne)⟩
theorem Only.set_ (w : World) (g i : Nat) (v : Value) : Only w (w.setCell ⟨g, i, none⟩ v) g :=
  ⟨rfl, rfl, rfl, by simp [World.setCell], fun k _ hne => Below.heap_setCell w ⟨g, i, none⟩ v k (fun e => hne (by rw [e]))⟩
theorem Only.ext {a w w' : World} {g : Nat} (h : Only w w' g) (hE : Ext a w) (hg : a.heap.size ≤ g) : Ext a w' :=
  hE.grown h (fun k hk => by injection hk with hk; omega)
theorem Only.own {w w' : World} {g k : Nat} {t : TypeId} {n : Nat} {F : Nat → Value} (h : Only w w' g) (hb : Own w k t n F) (hne : k ≠ g) : Own w' k t n F :=
  let ⟨cs, hb, hr⟩ := hb; ⟨cs, (h.block k hb.lt (fun e => hne (by injection e))).trans hb, hr⟩
end Go.Flow
end

section
namespace Go.Proofs.YtfgcogkhnnflcaaDoor
open Go.RowKit Go.Flow
open Go.Proofs
attribute [local go_sem] block_add
attribute [local go_sem ↓] Go.wp_at_zero Go.wp_at_succ

theorem ret_int {k : IntKind} {a b : Int} (h : a = b) : Ending.returned (.int k a) = .returned (.int k b) := by rw [h]
theorem ret_bool {a b : Bool} (h : a = b) : Ending.returned (.bool a) = .returned (.bool b) := by rw [h]

def lim (n m : Int) : Int := max 0 (min n m)

def sideB (n : Int) : Bool := decide (0 ≤ n ∧ n ≤ 96)

/-- A budget's four numbers. -/
abbrev bud (a b c d : Int) : Value := .agg #[.int .i64 a, .int .i64 b, .int .i64 c, .int .i64 d]

theorem side2_any (n : Int) (w : World) :
    Calls Tryd.prog 43 #[.int .i64 n] w fun e w' => e = .returned (.bool (sideB n)) ∧ w = w' := by
  go_enter Tryd.func43, Tryd.ntmps43
  go_wp2
  all_goals go_ret
  all_goals exact ⟨ret_bool (by unfold sideB; simp; omega), rfl⟩

theorem sideB_iff {n : Int} : sideB n = true ↔ 0 ≤ n ∧ n ≤ 96 := by unfold sideB; simp
theorem area_bd {W H : Int} (hW : 0 ≤ W ∧ W ≤ 96) (hH : 0 ≤ H ∧ H ≤ 96) : 0 ≤ W * H ∧ W * H ≤ 9216 :=
  ⟨Int.mul_nonneg hW.1 hH.1, by have := Int.mul_le_mul hW.2 hH.2 hH.1 (by omega : (0 : Int) ≤ 96); omega⟩

/-- A bitmap by value. -/
abbrev bmp (W H : Int) (A : Option Addr) (n c : Nat) : Value := .agg #[.int .i64 W, .int .i64 H, .slice A n c]
/-- What Check returns. -/
def chk (W H : Int) (n : Nat) : Int := if sideB W && sideB H then (if (n : Int) = W * H then 0 else 5) else 13

theorem okB {W H : Int} {n : Nat} (h : chk W H n = 0) : 0 ≤ W ∧ W ≤ 96 ∧ 0 ≤ H ∧ H ≤ 96 ∧ (n : Int) = W * H := by
  unfold chk at h
  split at h
  · rename_i h1
    simp only [Bool.and_eq_true, sideB_iff] at h1
    split at h
    · exact ⟨h1.1.1, h1.1.2, h1.2.1, h1.2.2, ‹_›⟩
    · omega
  · omega

theorem Check2_any (W H : Int) (A : Option Addr) (n c : Nat) (w : World) :
    Calls Tryd.prog 26 #[bmp W H A n c] w fun e w' => e = .returned (.int .i64 (chk W H n)) ∧ Ext w w' := by
  have hfin : Ext w (w.alloc (.cells #[.int .i64 W, .int .i64 H, .slice A n c] 30)) := (Ext.refl w).alloc _
  replace hfin := Lib.hid hfin
  cases hW : sideB W
  · have hr : chk W H n = 13 := by simp [chk, hW]
    replace hr := Lib.hid hr
    go_enter Tryd.func26, Tryd.ntmps26
    go_wp2_with (first | (go_at_call 43; refine (side2_any _ _).mono ?_; rintro e w' ⟨rfl, rfl⟩))
    go_ret
    exact ⟨ret_int hr.out.symm, hfin.out⟩
  cases hH : sideB H
  · have hr : chk W H n = 13 := by simp [chk, hH]
    replace hr := Lib.hid hr
    go_enter Tryd.func26, Tryd.ntmps26
    go_wp2_with (first | (go_at_call 43; refine (side2_any _ _).mono ?_; rintro e w' ⟨rfl, rfl⟩))
    go_ret
    exact ⟨ret_int hr.out.symm, hfin.out⟩
  have hb := area_bd (sideB_iff.1 hW) (sideB_iff.1 hH)
  have hr : chk W H n = if (n : Int) = W * H then 0 else 5 := by simp [chk, hH, hW]
  replace hr := Lib.hid hr
  go_enter Tryd.func26, Tryd.ntmps26
  go_wp2_with (first | (go_at_call 43; refine (side2_any _ _).mono ?_; rintro e w' ⟨rfl, rfl⟩))
  all_goals go_ret
  all_goals refine ⟨?_, hfin.out⟩
  all_goals rw [hr.out]
  all_goals simp_all

end Go.Proofs.YtfgcogkhnnflcaaDoor
end

section
namespace Go.Proofs.YtfgcogkhnnflcaaDoor
open Go.RowKit Go.Flow
open Go.Proofs
attribute [local go_sem] block_add
attribute [local go_sem ↓] Go.wp_at_zero Go.wp_at_succ

def sameB (n m : Nat) (f g : Nat → Int) : Bool := decide (n = m ∧ ∀ k, k < n → f k = g k)

set_option maxHeartbeats 400000 in
theorem SameInts_any (A B : Option Addr) (n m c d : Nat) (f g : Nat → Int) (w : World) (hn : n ≤ 4611686018427387904) (hA : Ints w A n f) (hB : Ints w B m g) :
    Calls Tryd.prog 14 #[.slice A n c, .slice B m d] w fun e w' => e = .returned (.bool (sameB n m f g)) ∧ Ext w w' := by
  by_cases hl : n = m
  · subst hl
    have hne : ((n : Int) != n) = false := by simp
    go_enter Tryd.func14, Tryd.ntmps14
    go_wp2
    go_loopw [5] (fun i wr => ∃ k : Nat, k ≤ n ∧ i = .int .i64 k ∧ (∀ j, j < k → f j = g j) ∧ Ext w wr) (fun i _ => n - (intOf i).toNat)
    case atStart => exact ⟨0, Nat.zero_le _, rfl, fun j hj => absurd hj (by omega), Ext.refl w⟩
    case round =>
      obtain ⟨k, hk, rfl, heq, hE⟩ := hrel
      replace heq := Lib.hid heq
      by_cases hlt : k < n
      · have hlt' : (k : Int) < n := by omega
        obtain ⟨ad, rfl, hc⟩ := hA.ext hE k hlt
        obtain ⟨bd, rfl, hd⟩ := hB.ext hE k hlt
        have hab := lt_of_cell hc
        have hbb := lt_of_cell hd
        replace hE := Lib.hid hE
        by_cases h : f k = g k
        · have hb : (f k != g k) = false := by simp [h]
          replace h := Lib.hid h
          go_wp2
          refine Flow.wp_flow 9 [(0, true), (1, true), (2, true), (3, true), (4, true), (5, true), (6, true), (7, true), (8, true)] (by kernel_rfl) (by kernel_rfl) ?_
          simp only [List.map_cons, List.map_nil, List.getD_cons_succ, List.getD_cons_zero]
          repeat (first
            | (refine Flow.WalkL.move rfl ?_
               simp only [Act.put, Act.eval, Array.getD_eq_getD_getElem?, List.getElem?_toArray, List.getElem?_cons_succ, List.getElem?_cons_zero, Option.getD_some, List.setIfInBounds_toArray, List.set_cons_zero, List.set_cons_succ])
            | (refine Flow.WalkL.assign rfl ?_
               simp only [Act.put, Act.eval, Array.getD_eq_getD_getElem?, List.getElem?_toArray, List.getElem?_cons_succ, List.getElem?_cons_zero, Option.getD_some, List.setIfInBounds_toArray, List.set_cons_zero, List.set_cons_succ])
            | (refine Flow.WalkL.run (v := ?_) rfl (fun w1 hC => ?_) ?_
               rotate_left
               · obtain ⟨hCc, hCf⟩ := hC.rules
                 go_simp
                 with_reducible rfl
               simp only [Act.put, List.setIfInBounds_toArray, List.set_cons_zero, List.set_cons_succ]))
          refine Flow.WalkL.nil ?_
          simp only [List.drop]
          intro w1 hC
          go_wp2
          go_roundw
          case rel => exact ⟨k + 1, by omega, by go_num, fun j hj => by rcases Nat.lt_or_ge j k with h1 | h1; · exact heq.out j h1
                                                                        · rw [show j = k by omega]; exact h.out, hE.out.trans hC⟩
          case measure => simp [intOf]; omega
        · have hb : (f k != g k) = true := by simp [h]
          go_wp2
          refine Flow.wp_flow 9 [(0, true), (1, true), (2, true), (3, true), (4, true), (5, true), (6, true), (7, true), (8, true)] (by kernel_rfl) (by kernel_rfl) ?_
          simp only [List.map_cons, List.map_nil, List.getD_cons_succ, List.getD_cons_zero]
          repeat (first
            | (refine Flow.WalkL.move rfl ?_
               simp only [Act.put, Act.eval, Array.getD_eq_getD_getElem?, List.getElem?_toArray, List.getElem?_cons_succ, List.getElem?_cons_zero, Option.getD_some, List.setIfInBounds_toArray, List.set_cons_zero, List.set_cons_succ])
            | (refine Flow.WalkL.assign rfl ?_
               simp only [Act.put, Act.eval, Array.getD_eq_getD_getElem?, List.getElem?_toArray, List.getElem?_cons_succ, List.getElem?_cons_zero, Option.getD_some, List.setIfInBounds_toArray, List.set_cons_zero, List.set_cons_succ])
            | (refine Flow.WalkL.run (v := ?_) rfl (fun w1 hC => ?_) ?_
               rotate_left
               · obtain ⟨hCc, hCf⟩ := hC.rules
                 go_simp
                 with_reducible rfl
               simp only [Act.put, List.setIfInBounds_toArray, List.set_cons_zero, List.set_cons_succ]))
          refine Flow.WalkL.nil ?_
          simp only [List.drop]
          intro w1 hC
          go_wp2
          go_ret
          exact ⟨ret_bool (by simp [sameB]; exact ⟨k, hlt, h⟩), hE.out.trans hC⟩
      · go_wp2
        go_ret
        exact ⟨ret_bool (by simp [sameB]; exact fun j hj => heq.out j (by omega)), hE⟩
  · have hne : ((n : Int) != m) = true := by simp; omega
    go_enter Tryd.func14, Tryd.ntmps14
    go_wp2
    go_ret
    exact ⟨ret_bool (by simp [sameB, hl]), Ext.refl w⟩

theorem info_int : (Tryd.prog.info? 3).map (fun i => (i.zero, i.size, i.bytes)) = some (some (.int .i64 0), 1, 8) := by kernel_rfl

end Go.Proofs.YtfgcogkhnnflcaaDoor
end
