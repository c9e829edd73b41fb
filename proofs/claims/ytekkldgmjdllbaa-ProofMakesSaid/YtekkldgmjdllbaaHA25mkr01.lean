/- Parts of the proof: Flow, Flow2, Base, ACode, AMem, AMem4, AMem5, AMem6, AMem7, AMem8, AMem9, AMemB, AMemC, ARange. -/
import Derived.Test.YtekkldgmjdllbaaG01
import Derived.StillTail
import Derived.Below
import Derived.Deep.Draws
import Derived.WalkKit
import Derived.KernelRfl
import Derived.Test.YtekkldgmjdllbaaG03
import Derived.Test.YtekkldgmjdllbaaG02
import Derived.RangeFuncLeaves
import Derived.RangeFuncRecord
import Derived.Deep.AppendLies
import Derived.OrdersIn
import Derived.TacticsIn
import Derived.RangeFuncCalls
import Derived.Maps.AppendAt
import Derived.OwnWalk
import Derived.Test.YtekkldgmjdllbaaG04
import Derived.Test.YtekkldgmjdllbaaG05
import Derived.Great.BuildSlice
import Derived.Test.YtekkldgmjdllbaaG06
import Derived.Test.YtekkldgmjdllbaaG07
import Derived.Laws.StructEq
import Derived.Laws.Cover3
import Derived.RangeFuncNested
set_option linter.unusedSimpArgs false
set_option linter.unusedVariables false
section
namespace Go.Flow
open Go Go.RowKit
theorem Ext.setCell {a b : World} (h : Ext a b) {p : Addr} (hp : a.heap.size ≤ p.block) (v : Value) : Ext a (b.setCell p v) := Below.setCell h hp v
section
variable {P : Program} {ops : Array Oper} {md : Region.Mode} {C : World → Prop}

theorem Comes.upon {o : Oper} {a : Act} {v : Value} {K : Act → World → Prop} {Q : Exit → Act → World → Prop} {r : Result Next}
 (h : Comes P C v r) (hK : ∀ w', C w' → K (a.put o.dst v) w') : o.upon P a K Q r := by
 cases r with
 | ok n w' =>
   cases n <;> simp only [Comes, Oper.upon] at h ⊢
   case value u => obtain ⟨rfl, hc⟩ := h; exact hK _ hc
   case skip => obtain ⟨rfl, hc⟩ := h; exact hK _ hc
   case enter f args => exact h.mono fun e w'' ⟨he, hc⟩ => by subst he; exact hK _ hc
 | halt x w' => simp only [Comes] at h

theorem At.wpOp {i : Nat} {o : Oper} {v : Value} {a : Act} {w : World} {K : Act → World → Prop} {Q : Exit → Act → World → Prop}
 (hi : ops[i]? = some o) (h : At P ops C o v a) (hC : C w) (hK : ∀ w', C w' → K (a.put o.dst v) w') : wpOp P ops Q i K a w := by
 unfold Go.wpOp
 simp only [hi]
 rcases h with ⟨hw, h⟩ | ⟨hw, rfl⟩
 ·rw [if_pos hw]
  exact .inl ((h w hC).upon hK)
 ·rw [if_neg (by simp [hw])]
  exact hK w hC

theorem Walk.callf {Qn : Act → Prop} {a : Act} {rest : List Oper} {v : Value} {dst : Option Tmp} {x : Operand} {xs : Array Operand} {ats : Array TypeId} {ty : TypeId} {pos : String} {after : Array Edge} {guard : Option (Nat × Bool)}
 {f : FuncId} {fn : Func} (hf : P.funcs[f]? = some fn) (hb : fn.body.isNone = false) (hn : (fn.name == "runtime.NumGoroutine") = false) {args : Array Value}
 {first captured : Array Value} (hx : a.eval x = .func (.func f) first captured)
 (hc : ∀ w, C w → Calls P f args w fun e w' => e = .returned v ∧ C w')
 (ha : first.toList ++ xs.toList.map a.eval ++ captured.toList = args.toList)
 (hg : Region.wanted { dst, op := .call { callee := .value x, args := xs, argTypes := ats }, type := ty, pos, after, guard } (yielded ops a.tmps) = true)
 (h : Walk P ops C Qn rest (a.put dst v)) : Walk P ops C Qn ({ dst, op := .call { callee := .value x, args := xs, argTypes := ats }, type := ty, pos, after, guard } :: rest) a :=
 ⟨v, .inl ⟨hg, fun w hw => by rw [run_callf f fn hf hb hn first captured hx w, show first ++ xs.map a.eval ++ captured = args from Array.ext' (by simpa using ha)]; exact hc w hw⟩, h⟩
end
section
variable {P : Program} {ops : Array Oper} {md : Region.Mode}

theorem Goes.upon {o : Oper} {a : Act} {K : Act → World → Prop} {K0 : Value → World → Prop} {Q : Exit → Act → World → Prop} {r : Result Next}
 (h : Goes P K0 r) (hK : ∀ v w', K0 v w' → K (a.put o.dst v) w') : o.upon P a K Q r := by
 cases r with
 | ok n w' =>
   cases n <;> simp only [Goes, Oper.upon] at h ⊢
   case value u => exact hK _ _ h
   case skip => exact hK _ _ h
   case enter f args => exact h.mono fun e w'' ⟨v, he, hc⟩ => by subst he; exact hK _ _ hc
 | halt x w' => simp only [Goes] at h

theorem AtE.later {w w' : World} {o : Oper} {v : Value} {a : Act} (h : AtE P ops w o v a) (hE : Ext w w') : AtE P ops w' o v a :=
 h.imp (fun ⟨hw, h⟩ => ⟨hw, fun w1 h1 => h w1 (hE.trans h1)⟩) id

theorem StE.of_at {i : Nat} {o : Oper} {v : Value} {a : Act} {w w0 : World} {K : Act → World → Prop} (hi : ops[i]? = some o) (h : AtE P ops w0 o v a) (hE : Ext w0 w)
 (hK : ∀ w', Ext w w' → K (a.put o.dst v) w') : StE P ops i K a w := by
 refine ⟨o, hi, ?_⟩
 rcases h with ⟨hw, h⟩ | ⟨hw, rfl⟩
 ·exact .inl ⟨hw, (h w hE).mono fun u w' ⟨hu, hx⟩ => ⟨hx, hu ▸ hK w' hx⟩⟩
 ·exact .inr ⟨hw, hK w (Ext.refl w)⟩
theorem StE.wpOp {i : Nat} {a : Act} {w : World} {K K' : Act → World → Prop} {Q : Exit → Act → World → Prop}
 (h : StE P ops i K a w) (hK : ∀ a' w', Ext w w' → K a' w' → K' a' w') : wpOp P ops Q i K' a w := by
 obtain ⟨o, hi, h⟩ := h
 unfold Go.wpOp
 simp only [hi]
 rcases h with ⟨hw, h⟩ | ⟨hw, h⟩
 ·rw [if_pos hw]
  exact .inl (h.upon fun v w' ⟨h1, h2⟩ => hK _ _ h1 h2)
 ·rw [if_neg (by simp [hw])]
  exact hK _ _ (Ext.refl w) h

def AnyE (P : Program) (md : Region.Mode) (ops : Array Oper) (n : Nat) (L : Array Bool → Act → World → Prop) : Nat → Array Bool → Act → World → Prop
 | 0, listed, a, w => ∀ w1, Ext w w1 → L listed a w1
 | f + 1, listed, a, w => ∀ w1, Ext w w1 →
   Region.ready md ops listed ≠ [] ∧ ∀ i ∈ Region.ready md ops listed, i < n ∧ StE P ops i (AnyE P md ops n L f (listed.setIfInBounds i true)) a w1

theorem AnyE.later {n : Nat} {L : Array Bool → Act → World → Prop} {f : Nat} {listed : Array Bool} {a : Act} {w w' : World} (h : AnyE P md ops n L f listed a w) (hE : Ext w w') : AnyE P md ops n L f listed a w' := by
 cases f with
 | zero => exact fun w1 h1 => h w1 (hE.trans h1)
 | succ f => exact fun w1 h1 => h w1 (hE.trans h1)

theorem wpAny_of_anyE {n g : Nat} {L : Array Bool → Act → World → Prop} {Q : Exit → Act → World → Prop} (hL : ∀ listed a w, L listed a w → wpAny P md ops Q g listed a w) :
 ∀ (f : Nat) (listed : Array Bool) (a : Act) (w : World), AnyE P md ops n L f listed a w → wpAny P md ops Q (f + g) listed a w
 | 0, listed, a, w, h => by rw [Nat.zero_add]; exact hL _ _ _ (h w (Ext.refl w))
 | f + 1, listed, a, w, h => by
   rw [show f + 1 + g = (f + g) + 1 by omega]
   have h := h w (Ext.refl w)
   exact ⟨fun h0 => absurd h0 h.1, fun i hi => (h.2 i hi).2.wpOp fun a' w' _ hk => wpAny_of_anyE hL f _ a' w' hk⟩

theorem anyE_first {n i : Nat} {oi : Oper} {v : Value} {L : Array Bool → Act → World → Prop} (hi : ops[i]? = some oi)
 (hsel : ∀ (j : Nat) (o : Oper) cs b, ops[j]? = some o → o.op ≠ .select cs b)
 (htail : ∀ listed, HeadInv md ops n listed → ∀ i, i < n → listed.getD i true = false → ∀ t, n ≤ t → t ∉ Region.ready md ops listed) (hin : i < n)
 (hdone : ∀ listed a w, L listed a w → ∀ j ∈ Region.ready md ops listed, n ≤ j) :
 ∀ (f : Nat) (listed : Array Bool) (a : Act) (w : World), HeadInv md ops n listed →
   (∀ j oj, ops[j]? = some oj → j ≠ i → listed.getD j true = false → (∀ e ∈ oj.after, Region.binds md e = true → e.on ≠ i) → oi.apart ops oj = true) →
   i ∈ Region.ready md ops listed → AtE P ops w oi v a →
   AnyE P md ops n L f (listed.setIfInBounds i true) (a.put oi.dst v) w → AnyE P md ops n L (f + 1) listed a w := by
 intro f
 induction f with
 | zero =>
   intro listed a w inv _ hr hy H w1 hE
   have hun := (mem_ready.1 hr).1
   refine ⟨fun h => (by rw [h] at hr; cases hr), fun j hj => ?_⟩
   have hjn : j < n := (Nat.lt_or_ge j n).resolve_right fun h => absurd hj (htail _ inv i hin hun j h)
   refine ⟨hjn, ?_⟩
   by_cases hji : j = i
   ·subst hji; exact StE.of_at hi hy hE fun w' hE' => AnyE.later H (hE.trans hE')
   ·have := hdone _ _ _ (H w1 hE) j (ready_mono hj hji)
    omega
 | succ f ih =>
   intro listed a w inv hfree hr hy H w1 hE
   have hun := (mem_ready.1 hr).1
   refine ⟨fun h => (by rw [h] at hr; cases hr), fun j hj => ?_⟩
   have hjn : j < n := (Nat.lt_or_ge j n).resolve_right fun h => absurd hj (htail _ inv i hin hun j h)
   refine ⟨hjn, ?_⟩
   by_cases hji : j = i
   ·subst hji; exact StE.of_at hi hy hE fun w' hE' => AnyE.later H (hE.trans hE')
   ·have h1 := ((H w1 hE).2 j (ready_mono hj hji)).2
    obtain ⟨hjun, oj, hoj, hall⟩ := mem_ready.1 hj
    have hnot : ∀ e ∈ oj.after, Region.binds md e = true → e.on ≠ i := fun e he hb heq => by
     have h1 := hall e he hb
     rw [heq, getD_both hun] at h1
     cases h1
    have h2 := StE.put (w0 := w) hoj (hfree j oj hoj hji hjun hnot) (fun cs b => hsel i oi cs b hi) (fun cs b => hsel j oj cs b hoj) hy h1
    have hfree' : ∀ k ok, ops[k]? = some ok → k ≠ i → (listed.setIfInBounds j true).getD k true = false →
     (∀ e ∈ ok.after, Region.binds md e = true → e.on ≠ i) → oi.apart ops ok = true := fun k ok hk hki hun hno => by
     refine hfree k ok hk hki ?_ hno
     by_cases hjk : j = k
     ·subst hjk; exact hjun
     ·rw [getD_set_ne true hjk] at hun; exact hun
    obtain ⟨o', ho', h2⟩ := h2
    refine ⟨o', ho', ?_⟩
    have step : ∀ u w', Ext w1 w' → (AtE P ops w oi v (a.put o'.dst u) ∧ AnyE P md ops n L f ((listed.setIfInBounds i true).setIfInBounds j true) ((a.put o'.dst u).put oi.dst v) w') →
     AnyE P md ops n L (f + 1) (listed.setIfInBounds j true) (a.put o'.dst u) w' := fun u w' hx ⟨h3, h4⟩ => by
     refine ih (listed.setIfInBounds j true) _ w' (inv.set hj hjn) hfree' (ready_mono hr (Ne.symm hji)) (h3.later (hE.trans hx)) ?_
     rw [Array.setIfInBounds_comm _ _ hji]
     exact h4
    exact h2.imp (fun ⟨hw, hg⟩ => ⟨hw, hg.mono fun u w' ⟨hx, hk⟩ => ⟨hx, step u w' hx hk⟩⟩) (fun ⟨hw, hk⟩ => ⟨hw, step _ _ (Ext.refl w1) hk⟩)

def WalkE (P : Program) (ops : Array Oper) (Qn : Act → World → Prop) : List (Nat × Bool) → Act → World → Prop
 | [], a, w => ∀ w1, Ext w w1 → Qn a w1
 | (k, true) :: s, a, w => ∃ o v, ops[k]? = some o ∧ AtE P ops w o v a ∧ WalkE P ops Qn s (a.put o.dst v) w
 | (k, false) :: s, a, w => ∀ w1, Ext w w1 → StE P ops k (WalkE P ops Qn s) a w1

def okSeq (ops : Array Oper) (n : Nat) : List (Nat × Bool) → Array Bool → Bool
 | [], listed => Region.seqB .any ops (ops.size - n) n listed
 | (k, b) :: s, listed => decide (k < n) && (Region.ready .any ops listed).contains k &&
     (if b then Region.free .any ops listed k else decide (Region.ready .any ops listed = [k])) && okSeq ops n s (listed.setIfInBounds k true)

theorem anyE_walk {n : Nat} {Lq : Act → World → Prop} (hsel : Region.noSelect ops = true)
 (htail : ∀ listed, HeadInv .any ops n listed → ∀ i, i < n → listed.getD i true = false → ∀ t, n ≤ t → t ∉ Region.ready .any ops listed) :
 ∀ (s : List (Nat × Bool)) (listed : Array Bool) (a : Act) (w : World), HeadInv .any ops n listed → okSeq ops n s listed = true → WalkE P ops Lq s a w →
   AnyE P .any ops n (fun listed' a' w' => Region.seqB .any ops (ops.size - n) n listed' = true ∧ Lq a' w') s.length listed a w
 | [], listed, a, w, _, hB, h => fun w1 h1 => ⟨hB, h w1 h1⟩
 | (k, true) :: s, listed, a, w, inv, hB, h => by
   simp only [okSeq, Bool.and_eq_true, decide_eq_true_eq, if_true] at hB
   obtain ⟨⟨⟨hkn, hr⟩, hf⟩, hB'⟩ := hB
   have hr' : k ∈ Region.ready .any ops listed := by simpa using hr
   obtain ⟨o, v, ho, hat, hK⟩ := h
   exact anyE_first ho (Region.noSelect_spec hsel) htail hkn (fun listed' a' w' hL => seqB_ready hL.1) s.length listed a w inv (Region.free_spec ho hf) hr' hat
    (anyE_walk hsel htail s _ _ w (inv.set hr' hkn) hB' hK)
 | (k, false) :: s, listed, a, w, inv, hB, h => by
   simp only [okSeq, Bool.and_eq_true, decide_eq_true_eq, Bool.false_eq_true, if_false] at hB
   obtain ⟨⟨⟨hkn, hr⟩, hf⟩, hB'⟩ := hB
   have hr' : k ∈ Region.ready .any ops listed := by simpa using hr
   intro w1 h1
   refine ⟨by rw [hf]; simp, fun i hi => ?_⟩
   rw [hf] at hi
   obtain rfl : i = k := by simpa using hi
   exact ⟨hkn, (h w1 h1).mono fun a' w' hk => anyE_walk hsel htail s _ a' w' (inv.set hr' hkn) hB' hk⟩

theorem WalkL.toE {l : List Oper} {Qn : Act → World → Prop} {n : Nat} : ∀ (s : List (Nat × Bool)) (listed : Array Bool) (a : Act) (w : World), okSeq l.toArray n s listed = true →
 WalkL P l.toArray Qn (s.map fun x => (l.getD x.1 default, x.2)) a w → WalkE P l.toArray Qn s a w
 | [], _, _, _, _, h => h
 | (k, b) :: s, listed, a, w, hB, h => by
   simp only [okSeq, Bool.and_eq_true, decide_eq_true_eq] at hB
   obtain ⟨⟨⟨_, hr⟩, _⟩, hB'⟩ := hB
   have hr' : k ∈ Region.ready .any l.toArray listed := by simpa using hr
   obtain ⟨_, o, ho, _⟩ := mem_ready.1 hr'
   have hl : l.getD k default = o := by
    have : l[k]? = some o := by simpa using ho
    simp [List.getD, this]
   simp only [List.map_cons, hl] at h
   cases b with
   | true =>
     obtain ⟨v, hat, hk⟩ := h
     exact ⟨o, v, ho, hat, WalkL.toE s _ _ _ hB' hk⟩
   | false =>
     intro w1 h1
     exact ⟨o, ho, (h w1 h1).imp (fun ⟨hw, hg⟩ => ⟨hw, hg.mono fun u w' ⟨hx, hk⟩ => ⟨hx, WalkL.toE s _ _ _ hB' hk⟩⟩) (fun ⟨hw, hk⟩ => ⟨hw, WalkL.toE s _ _ _ hB' hk⟩)⟩

def okFlow (ops : Array Oper) (n : Nat) (s : List (Nat × Bool)) : Bool :=
 Region.noSelect ops && decide (n ≤ ops.size) && (decide (n = ops.size) || (Region.sinkB .any ops n && Region.chainB .any ops n)) &&
  decide (s.length = n) && okSeq ops n s (Array.replicate ops.size false)

theorem wp_flow {id : Nat} {Q : Exit → Act → World → Prop} {a : Act} {w : World} {l : List Oper} (n : Nat) (s : List (Nat × Bool)) (hm : P.follows .mixedOrders = true) (hB : okFlow l.toArray n s = true)
 (h : WalkL P l.toArray (fun a' w' => wpList P l.toArray Q (l.drop n) a' w') (s.map fun x => (l.getD x.1 default, x.2)) a w) : (Code.region id l.toArray true).wp P Q a w := by
 simp only [okFlow, Bool.and_eq_true, Bool.or_eq_true, decide_eq_true_eq] at hB
 obtain ⟨⟨⟨⟨hsel, hn⟩, hs⟩, hlen⟩, hseq⟩ := hB
 have hn' : n ≤ l.length := by simpa using hn
 have hdl : (l.drop n).length = l.toArray.size - n := by simp
 have inv0 : HeadInv .any l.toArray n (Array.replicate l.toArray.size false) :=
  ⟨by simp, fun j oj _ hl => (by rw [getD_replicate_false] at hl; cases hl), fun t _ ht => getD_in (by simpa using ht) (getD_replicate_false _ _)⟩
 have htail : ∀ listed, HeadInv .any l.toArray n listed → ∀ i, i < n → listed.getD i true = false → ∀ t, n ≤ t → t ∉ Region.ready .any l.toArray listed := by
  intro listed inv i hi hun t ht
  by_cases hsz : n < l.toArray.size
  ·rcases hs with hs | hs
   ·omega
   ·exact tail_waits hs.1 hs.2 hsz inv _ i rfl hi hun t ht
  ·intro hr
   obtain ⟨_, o, ho, _⟩ := mem_ready.1 hr
   have := (Array.getElem?_eq_some_iff.1 ho).1
   omega
 replace h := WalkL.toE (l := l) s _ a w hseq h
 have hdrew : WalkE P l.toArray (fun a' w' => wpList P l.toArray Q (l.drop n) a' w') s a w.drew := by
  have hE : Ext w w.drew := (Ext.refl w).drew
  have go : ∀ (s : List (Nat × Bool)) (a : Act), WalkE P l.toArray (fun a' w' => wpList P l.toArray Q (l.drop n) a' w') s a w → WalkE P l.toArray (fun a' w' => wpList P l.toArray Q (l.drop n) a' w') s a w.drew := by
   intro s
   induction s with
   | nil => exact fun a h w1 h1 => h w1 (hE.trans h1)
   | cons x s ih =>
     obtain ⟨k, b⟩ := x
     cases b with
     | true => exact fun a ⟨o, v, ho, hat, hk⟩ => ⟨o, v, ho, hat.later hE, ih _ hk⟩
     | false => exact fun a h w1 h1 => h w1 (hE.trans h1)
  exact go s a h
 have H := anyE_walk hsel htail s _ a w.drew inv0 hseq hdrew
 refine wp_region_any hm ?_
 have := wpAny_of_anyE (Q := Q) (g := l.toArray.size - n) (fun listed a' w' hL => by
  have := wpAny_of_seq (md := .any) (Q' := Q) (l.drop n) n listed a' w' (fun j => by simp [List.getElem?_drop]) (by rw [hdl]; exact hL.1) hL.2
  rwa [hdl] at this) _ _ _ _ H
 rw [hlen, show n + (l.toArray.size - n) = l.toArray.size by omega] at this
 exact this

variable {Qn : Act → World → Prop} {s : List (Oper × Bool)} {a : Act} {w : World} {v : Value}
theorem WalkL.callf {dst : Option Tmp} {x : Operand} {xs : Array Operand} {ats : Array TypeId} {ty : TypeId} {pos : String} {after : Array Edge} {guard : Option (Nat × Bool)}
 {f : FuncId} {fn : Func} (hf : P.funcs[f]? = some fn) (hb : fn.body.isNone = false) (hn : (fn.name == "runtime.NumGoroutine") = false) {args : Array Value}
 {first captured : Array Value} (hx : a.eval x = .func (.func f) first captured)
 (hc : ∀ w1, Ext w w1 → Calls P f args w1 fun e w' => e = .returned v ∧ Ext w1 w')
 (ha : first.toList ++ xs.toList.map a.eval ++ captured.toList = args.toList)
 (hg : Region.wanted { dst, op := .call { callee := .value x, args := xs, argTypes := ats }, type := ty, pos, after, guard } (yielded ops a.tmps) = true)
 (h : WalkL P ops Qn s (a.put dst v) w) : WalkL P ops Qn (({ dst, op := .call { callee := .value x, args := xs, argTypes := ats }, type := ty, pos, after, guard }, true) :: s) a w :=
 ⟨v, .inl ⟨hg, fun w1 h1 => by
   rw [run_callf f fn hf hb hn first captured hx w1, show first ++ xs.map a.eval ++ captured = args from Array.ext' (by simpa using ha)]
   exact (hc w1 h1).mono fun _ _ ⟨he, hx⟩ => ⟨v, he, rfl, hx⟩⟩, h⟩
end
section
variable {w w' W : World} {g : Nat} {t : TypeId} {cs : Array Value}
theorem Blk.new' {g : Nat} (hg : g = w.heap.size) (t : TypeId) (cs : Array Value) : Blk (w.alloc (.cells cs t)) g t cs := hg ▸ Blk.new w t cs
theorem Blk.set_ (h : Blk w g t cs) (i : Nat) (u : Value) : Blk (w.setCell ⟨g, i, none⟩ u) g t (cs.setIfInBounds i u) := by
 unfold Blk at h ⊢
 simp [World.setCell, Array.getElem?_modify, h]
theorem Blk.far (h : Blk w g t cs) {p : Addr} (hp : g ≠ p.block) (u : Value) : Blk (w.setCell p u) g t cs := (Below.heap_setCell w p u g hp).trans h

end
theorem Arr.congr {w : World} {A : Option Addr} {n : Nat} {F G : Nat → Value} (h : Arr w A n F) (hg : ∀ k, k < n → F k = G k) : Arr w A n G := fun k hk =>
 let ⟨ad, e, hc⟩ := h k hk
 ⟨ad, e, hg k hk ▸ hc⟩
def upd (F : Nat → Value) (i : Nat) (v : Value) : Nat → Value := fun k => if k = i then v else F k
section
variable {w w' : World} {g : Nat} {t : TypeId} {n : Nat} {F G : Nat → Value}
theorem Own.congr (h : Own w g t n F) (hg : ∀ k, k < n → F k = G k) : Own w g t n G := let ⟨cs, hb, hs, hc⟩ := h; ⟨cs, hb, hs, fun k hk => by rw [hc k hk, hg k hk]⟩
theorem Own.set_ (h : Own w g t n F) (i : Nat) (v : Value) : Own (w.setCell ⟨g, i, none⟩ v) g t n (upd F i v) := by
 obtain ⟨cs, hb, hs, hc⟩ := h
 refine ⟨_, hb.set_ i v, by simpa using hs, fun k hk => ?_⟩
 unfold upd
 by_cases e : k = i
 ·subst e; simp [hs, hk]
 ·rw [if_neg e, Array.getElem?_setIfInBounds_ne (Ne.symm e)]; exact hc k hk
theorem Own.far (h : Own w g t n F) {p : Addr} (hp : g ≠ p.block) (u : Value) : Own (w.setCell p u) g t n F := let ⟨cs, hb, hr⟩ := h; ⟨cs, hb.far hp u, hr⟩
end

theorem Only.set_ (w : World) (g i : Nat) (v : Value) : Only w (w.setCell ⟨g, i, none⟩ v) g :=
 ⟨rfl, rfl, rfl, by simp [World.setCell], fun k _ hne => Below.heap_setCell w ⟨g, i, none⟩ v k (fun e => hne (by rw [e]))⟩
theorem wpList_make {P : Program} {w : World} {ops : Array Oper} {rest : List Oper} {o : Oper} {a : Act} {Q : Exit → Act → World → Prop}
 (hg : o.guard = none) (l c : Operand) (t : TypeId) (hop : o.op = Op.makeSlice t l c)
 (e : TypeId) (i : TypeInfo) (z : Value) (h1 : P.underlying t = some (.slice e)) (h2 : P.info? e = some i) (h3 : i.zero = some z) (h4 : i.size = 1) (hz : z.cells = #[z])
 (kl kc : IntKind) (L C : Int) (n : Nat) (hl : a.eval l = .int kl L) (hc : a.eval c = .int kc C) (hL : L = (n : Int)) (hC : C = (n : Int)) (b2 : i.bytes * n ≤ 281474976710656) (b3 : n ≤ 4611686018427387904)
 (hK : ∀ w', Own w' w.heap.size e n (fun _ => z) → Ext w w' → wpList P ops Q rest (a.put o.dst (.slice (some ⟨w.heap.size, 0, none⟩) n n)) w') :
 wpList P ops Q (o :: rest) a w := by
 refine wpList_plain hg fun K hK' => ?_
 have hb' : (i.bytes : Int) * (n : Int) ≤ 281474976710656 := by
  have h : ((i.bytes * n : Nat) : Int) ≤ 281474976710656 := by omega
  rwa [Int.natCast_mul] at h
 have hrun := run_make (P := P) w t e i z h1 h2 h3 kl kc n n (by omega) (by omega) hb' (by omega)
 simp only [Int.toNat_natCast, h4, Nat.mul_one] at hrun
 subst hL
 subst hC
 unfold Oper.wp
 simp [execOp, hop, hl, hc, hrun, Result.andThen]
 refine hK' _ _ (hK _ ⟨_, Blk.new _ _ _, size_madeCells _ _, fun k hk => ?_⟩ ((Ext.refl w).alloc _))
 simp [madeCells, hz, hk, Nat.mod_one]
end Go.Flow
end
section
namespace Go.AV
open Go Go.RowKit Go.Flow
section
variable {P : Program}
variable {Q Q' : Exit → St → Prop} {S S' : St}
theorem Wk.mkL {S : St} {n ln : Nat} {ts : List (Nat × AV)} {hs : List (Nat × AB)} {ids : List Nat} (ren : List (Nat × Option Nat)) (hn : S.n = n) (hln : S.ln = ln) (hlent : lentIn hs ln = true) (hren : (renOk ren && renLow ren) = true) (hids : ren.all (fun p => ids.any (Nat.beq p.1)) = true)
 (ht : AllT S ren ts) (hh : AllH S ren hs) (hgs : S.gs = 0 := by rfl) (hdd : S.dd = false := by rfl) (hG : ∀ b, S.G b → b.rd = none := by exact fun _ h => h) : Wk S (mkL n ln ts hs ids) := Wk.mkG ren hn hln hlent hren hids ht hh hgs hdd hG
end
section
variable {P : Program} {tab : List (TypeId × TD)}
section ops
variable {ops : Array Oper} {rest : List Oper} {acc : List (List Nat × List Nat)} {S : St} {Q : List (List Nat × List Nat) → St → Prop} {dst : Option Tmp} {ty : TypeId} {pos : String} {after : Array Edge} {guard : Option (Nat × Bool)}
theorem AList.lenOw (T : tabOk P tab = true) {x : Operand} {id : Nat} {B : AB} {t1 : TypeId} {d : TD} {el : TypeId} (hw : S.wants ops { dst, op := .call { callee := .builtin .len, args := #[x], argTypes := #[t1] }, type := ty, pos, after, guard } = some true) (hd : dOk S.n dst = true)
 (hx : S.opd x = some (.c (.ow id))) (hh : S.h id = some B) (hr : B.row = true) (ht : assoc tab t1 = some d) (hk : d.k = .sl el)
 (hn : AList P ops rest (([id], []) :: acc) (S.eff dst ⟨.c (.p (.int .i64 B.n)), [], []⟩) Q) : AList P ops ({ dst, op := .call { callee := .builtin .len, args := #[x], argTypes := #[t1] }, type := ty, pos, after, guard } :: rest) acc S Q :=
 AList.len (rd := [id]) hw hd (ty_sl T ht hk) hx (fun S1 hr1 b0 σ a w R u hu => by
  obtain ⟨v, f1, f2⟩ := R.hp.blk id B ((hr1 id (by simp)).trans hh)
  have e0 := hu.2.1
  rw [e0] at f1
  cases f1
  rcases f2.row hr with ⟨_, h1, h0⟩ | ⟨b, cap, cs, h1, h2, h3, h4⟩
  ·exact ⟨none, 0, by rw [h1, h0]⟩
  ·rcases h1 with ⟨_, h1, _⟩ | ⟨h1, _⟩
   ·exact ⟨_, _, h1⟩
   ·rw [hr] at h1; cases h1) hn
end ops
end
section
variable {P : Program} {tab : List (TypeId × TD)}
theorem src_nil {σ : Nat → Option Value} {O : Nat → Prop} {w : World} {u : Value} {sz : Nat} {G : Nat → Nat → CV} (h : RepA σ O w (.c (.p (.slice none 0 0))) u) : Src σ O w u 0 sz G :=
 ⟨none, 0, [], h.2, by simp, fun p v hp => by simp at hp, fun k hk => absurd hk (Nat.not_lt_zero _)⟩
section ops
variable {ops : Array Oper} {rest : List Oper} {acc : List (List Nat × List Nat)} {S : St} {Q : List (List Nat × List Nat) → St → Prop} {dst : Option Tmp} {ty : TypeId} {pos : String} {after : Array Edge} {guard : Option (Nat × Bool)}
end ops
end
section
variable {P : Program} {tab : List (TypeId × TD)}
section ops
variable {ops : Array Oper} {rest : List Oper} {acc : List (List Nat × List Nat)} {S : St} {Q : List (List Nat × List Nat) → St → Prop} {dst : Option Tmp} {ty : TypeId} {pos : String} {after : Array Edge} {guard : Option (Nat × Bool)}
theorem AList.nilPt {x : Operand} {y : CV} (hw : S.wants ops { dst, op := .nilCheck x, type := ty, pos, after, guard } = some true) (hd : dOk S.n dst = true) (hx : S.opd x = some (.c y)) (hp : (match y with | .pt .. | .pl .. => true | _ => false) = true)
 (hn : AList P ops rest (([], []) :: acc) (S.eff dst ⟨.c y, [], []⟩) Q) : AList P ops ({ dst, op := .nilCheck x, type := ty, pos, after, guard } :: rest) acc S Q :=
 AList.val [] _ hw hd (fun S1 h1 _ b0 σ a w R => by
  have hr := opd_rep R ((h1 x (by simp [Op.operands])).trans hx)
  refine ⟨a.eval x, ?_, hr⟩
  cases y with
  | pt id sz k j => obtain ⟨-, v, b, e1, e2, e3⟩ := hr; simp only [execOp, e3, Sem.run_pure]
  | pl n sz F k j => obtain ⟨-, ad, e1, e2⟩ := hr; simp only [execOp, e1, Sem.run_pure]
  | _ => cases hp) hn
variable {x y : Operand} {xt yt : TypeId} {i j : Int}
theorem AList.appN (T : tabOk P tab = true) {id : Nat} {s : Operand} {t el : TypeId} {d e : TD} {m : Nat} {G : Nat → Nat → CV}
 (hw : S.wants ops { dst := some id, op := .call { callee := .builtin .append, args := #[s, x], argTypes := #[t, t] }, type := ty, pos, after, guard } = some true) (hd : dOk S.n (some id) = true) (hf : S.fr id = true)
 (hs : S.opd s = some (.c (.p (.slice none 0 0)))) (hx : S.opd x = some (.c (.ls m e.size G))) (ht : assoc tab t = some d) (hk : d.k = .sl el) (he : assoc tab el = some e) (hsz : Nat.blt 0 e.size = true)
 (h63 : m ≤ 4611686018427387904) (hb : m * e.bytes ≤ 140737488355328)
 (hn : AList P ops rest (([id], [id, id]) :: acc) (S.eff (some id) ⟨.c (.ow id), [(id, some ⟨true, m, e.size, el, G⟩)], [id]⟩) Q) :
 AList P ops ({ dst := some id, op := .call { callee := .builtin .append, args := #[s, x], argTypes := #[t, t] }, type := ty, pos, after, guard } :: rest) acc S Q :=
 AList.app T (o := none) (F := fun _ _ => .any) (G := G) [] hw hd hf hs hx ht hk he (Nat.blt_eq.mp hsz) (.inl ⟨rfl, rfl, rfl⟩) (fun S1 _ b0 σ a w R u hu => src_ls hu) (by omega) (by rw [Nat.zero_add]; exact hb) (by rw [Nat.zero_add]; exact hn)
theorem AList.appE (T : tabOk P tab = true) {id id1 : Nat} {s : Operand} {t el : TypeId} {d e : TD} {n : Nat} {F : Nat → Nat → CV}
 (hw : S.wants ops { dst := some id, op := .call { callee := .builtin .append, args := #[s, x], argTypes := #[t, t] }, type := ty, pos, after, guard } = some true) (hd : dOk S.n (some id) = true) (hf : S.fr id = true)
 (hs : S.opd s = some (.c (.ow id1))) (hx : S.opd x = some (.c (.p (.slice none 0 0)))) (ht : assoc tab t = some d) (hk : d.k = .sl el) (he : assoc tab el = some e) (hh : S.h id1 = some ⟨true, n, e.size, el, F⟩) (hsz : (Nat.blt 0 e.size && Nat.blt id1 1000) = true)
 (h63 : n + 0 ≤ 4611686018427387904) (hb : (n + 0) * e.bytes ≤ 140737488355328)
 (hn : AList P ops rest (([id1, id], [id1, id, id]) :: acc) (S.eff (some id) ⟨.c (.ow id), [(id1, none), (id, some ⟨true, n + 0, e.size, el, appF F n (fun _ _ => .any)⟩)], [id]⟩) Q) :
 AList P ops ({ dst := some id, op := .call { callee := .builtin .append, args := #[s, x], argTypes := #[t, t] }, type := ty, pos, after, guard } :: rest) acc S Q :=
 AList.app T (o := some id1) (F := F) (G := fun _ _ => .any) [] hw hd hf hs hx ht hk he (Nat.blt_eq.mp (Bool.and_eq_true_iff.1 hsz).1) (.inr ⟨id1, rfl, rfl, hh, Nat.blt_eq.mp (Bool.and_eq_true_iff.1 hsz).2⟩) (fun S1 _ b0 σ a w R u hu => src_nil hu) h63 hb hn
end ops
section code
variable {next : St → Prop} {Q : Exit → St → Prop} {S : St} {id k : Nat}
theorem hcalls_at {f : FuncId} {fn : Func} {c : Code} {rs : List ResultVar} {args : List V1} {hs hs' : List (Nat × AB)} {r : AV} {n : Nat} (hf : P.funcs[f]? = some fn) (hb : fn.body = some c) (hr : fn.results = rs.toArray) (hn : fn.ntmps = n) (hl : Nat.ble args.length n = true)
 (hk : keysHi hs' = true) (him : ∀ p ∈ hs', ∀ k j, k < p.2.n → j < p.2.sz → immC (p.2.F k j) = true) (h : AWp P c (RetOk P rs r hs') (entryL n args hs)) : HCalls P f args hs r hs' := by
 subst hn
 exact hcalls_of hf hb hr (Nat.ble_eq.mp hl) hk him h
end code
end
section
variable {P : Program}
theorem HeapOk.lentRow {S : St} {ren : List (Nat × Option Nat)} {id n sz : Nat} {ty : TypeId} {F G : Nat → Nat → CV} (hb : Nat.ble 1000 id = true) (hh : S.h id = some ⟨true, n, sz, ty, F⟩) (hc : ∀ k, k < n → ∀ j, j < sz → F k j = G k j ∧ immC (F k j) = true) :
 HeapOk S ren id ⟨true, n, sz, ty, G⟩ := .inr ⟨id, n, F, .inr ⟨Nat.ble_eq.mp hb, rfl⟩, rfl, hh, fun k hk j hj => LeC.eq (hc k hk j hj).1 (hc k hk j hj).2⟩
section ops
variable {ops : Array Oper} {rest : List Oper} {acc : List (List Nat × List Nat)} {S : St} {Q : List (List Nat × List Nat) → St → Prop} {dst : Option Tmp} {ty : TypeId} {pos : String} {after : Array Edge} {guard : Option (Nat × Bool)}
theorem lendOk_congr {S S1 : St} : ∀ {ids : List Nat} {bs : List AB}, (∀ id ∈ ids, S1.h id = S.h id) → LendOk S ids bs → LendOk S1 ids bs
 | [], [], _, h => h
 | id :: ids, B :: bs, he, h => ⟨let ⟨F, h1, h2⟩ := h.1; ⟨F, (he id (by simp)).trans h1, h2⟩, lendOk_congr (fun i hi => he i (by simp [hi])) h.2⟩
 | [], _ :: _, _, h => h.elim
 | _ :: _, [], _, h => h.elim
theorem AList.callH {f : FuncId} {fn : Func} {xs : Array Operand} {ats : Array TypeId} {args : List V1} {r : AV} (ids : List Nat) (bs bs' : List AB) (hw : S.wants ops { dst, op := .call { callee := .value (.func f), args := xs, argTypes := ats }, type := ty, pos, after, guard } = some true) (hd : dOk S.n dst = true)
 (ha : S.opds xs.toList = some args) (hf : P.funcs[f]? = some fn) (hb : fn.body.isNone = false) (hnm : (fn.name == "runtime.NumGoroutine") = false) (hL : LendOk S ids bs) (hnd : (nodupB ids && Nat.beq bs'.length bs.length) = true) (hI : LendImm bs')
 (hc : HCalls P f (args.map (lendV ids)) (lentL 0 bs) r (lentL 0 bs'))
 (hn : AList P ops rest ((ids ++ [], (zipW ids bs').map (·.1) ++ []) :: acc) (S.eff dst ⟨r, zipW ids bs', []⟩) Q) : AList P ops ({ dst, op := .call { callee := .value (.func f), args := xs, argTypes := ats }, type := ty, pos, after, guard } :: rest) acc S Q :=
 AList.cons ids ⟨r, zipW ids bs', []⟩ (LStep.of hw fun S1 hA hr _ b0 σ a w R => by
  rw [Bool.and_eq_true] at hnd
  have h2 : S1.opds xs.toList = some args := (opds_congr fun x hx => hA.op x (by simp only [Op.operands, Call.operands]; simp; exact .inr (by simpa using hx))).trans ha
  have := hc.at R (dst := dst) (by rw [hA.n]; exact hd) (opds_rep R h2) (lendOk_congr hr hL) hnd.1 (Nat.eq_of_beq_eq_true hnd.2) hI
  rw [run_callf f fn hf hb hnm #[] #[] rfl w]
  simp only [Goes]
  rw [show (#[] ++ xs.map a.eval ++ #[] : Array Value) = (xs.toList.map a.eval).toArray from Array.ext' (by simp)]
  exact this.mono fun e w' ⟨v, g1, g2⟩ => ⟨v, g1, g2⟩) hn
end ops
end
section
variable {P : Program}
def OFresh (base : Nat) (O : Nat → Prop) (w : World) (rv : Value) (B : AB) : Prop :=
 B.row = true ∧ ((rv = .slice none 0 0 ∧ B.n = 0) ∨ ∃ b cap cs, OBase B rv b cap ∧ base ≤ b ∧ w.heap[b]? = some (.cells cs B.ty (0, 0)) ∧ cs.size = cap * B.sz ∧ ∀ k, k < B.n → ∀ j, j < B.sz → ∃ u, cs[k * B.sz + j]? = some u ∧ RepC (fun _ => none) O w (B.F k j) u)
def isP : CV → Bool
 | .p _ => true
 | _ => false
theorem isP_rep {σ σ' : Nat → Option Value} {O O' : Nat → Prop} {w w' : World} {x : CV} {u : Value} (h : isP x = true) (hx : RepC σ O w x u) : RepC σ' O' w' x u := by
 cases x <;> first | exact hx | cases h
theorem swap_p {σ σ' : Nat → Option Value} {O O' : Nat → Prop} {w w' : World} {id id' : Nat} {rv : Value} (h1 : σ id = some rv) (h2 : σ' id' = some rv) : ∀ {l1 : List CV} {l2 : List CV} {vs : List Value}, l1.all isP = true → l2.all isP = true → RepL (RepC σ O w) (l1 ++ .ow id :: l2) vs → RepL (RepC σ' O' w') (l1 ++ .ow id' :: l2) vs
 | x :: l1, l2, v :: vs, hi, hj, h => by
   rw [List.all_cons, Bool.and_eq_true] at hi
   exact ⟨isP_rep hi.1 h.1, swap_p h1 h2 hi.2 hj h.2⟩
 | [], l2, v :: vs, _, hj, h => by
   obtain ⟨g1, g2, g3⟩ := h.1
   rw [h1] at g2
   refine ⟨⟨g1, h2.trans g2, g3⟩, RepL.of_get h.2.length fun i x u e1 e2 => ?_⟩
   obtain ⟨u', e3, e4⟩ := h.2.get e1
   rw [e2] at e3
   cases e3
   exact isP_rep (List.all_eq_true.1 hj _ (List.mem_of_getElem? e1)) e4
 | [], _, [], _, _, h => h.elim
 | _ :: _, _, [], _, _, h => h.elim
section ops
variable {ops : Array Oper} {rest : List Oper} {acc : List (List Nat × List Nat)} {S : St} {Q : List (List Nat × List Nat) → St → Prop} {ty : TypeId} {pos : String} {after : Array Edge} {guard : Option (Nat × Bool)}
end ops
end
section
variable {P : Program}
theorem AText.split {ops : Array Oper} {l : List Oper} {S : St} {Q : St → Prop} (n : Nat) (h : AList P ops (l.take n) [] S (fun _ S1 => AText P ops (l.drop n) S1 Q)) : AText P ops l S Q := ⟨fun rd b0 a w K hR hK => by
 have key : ∀ (l1 : List Oper) (l2 : List Oper) (acc : List (List Nat × List Nat)) (S : St) (a : Act) (w : World), AListD P ops l1 acc S (fun _ S1 => AText P ops l2 S1 Q) → Rel b0 S a w → wpListIn (fnc rd) 0 P ops K (l1 ++ l2) a w := by
  intro l1 l2
  induction l1 with
  | nil => exact fun acc S a w h hR => h.get rd b0 a w K hR hK
  | cons o l1 ih =>
    rintro acc S a w ⟨rd', e, hs, hk⟩ hR
    rw [List.cons_append]
    unfold wpListIn
    rcases hs.at hR with ⟨hw, hg⟩ | ⟨hw, hR'⟩
    ·rw [if_pos hw]
     exact hg.wpIn fun v w' hR' => ih _ _ _ _ hk hR'
    ·rw [if_neg (by simp [hw])]
     exact ⟨fun _ _ => trivial, ih _ _ _ _ hk hR'⟩
 have := key (l.take n) (l.drop n) [] S a w h.get hR
 rwa [List.take_append_drop] at this⟩
theorem AWp.text {id : Nat} {l : List Oper} {S : St} {Q : Exit → St → Prop} (h : AText P l.toArray l S (Q .normal)) : AWp P (.region id l.toArray false) Q S := ⟨fun b0 a w hR =>
 wpIn_region_lit (h.get _ b0 a w _ hR fun S a w h1 h2 => ⟨S, h1, h2⟩)⟩
section ops
variable {ops : Array Oper} {rest : List Oper} {S : St} {Q : St → Prop} {dst : Option Tmp} {ty : TypeId} {pos : String} {after : Array Edge} {guard : Option (Nat × Bool)}
end ops
end
section
variable {P : Program}
section ops
variable {ops : Array Oper} {rest : List Oper} {acc : List (List Nat × List Nat)} {S : St} {Q : List (List Nat × List Nat) → St → Prop} {dst : Option Tmp} {ty xt yt : TypeId} {pos : String} {after : Array Edge} {guard : Option (Nat × Bool)} {x y : Operand} {tab : List (TypeId × TD)}
theorem AList.idxArr (T : tabOk P tab = true) {t : TypeId} {id sz j i N : Nat} {d e : TD} {el : TypeId} {ki : IntKind} {n : Int} (hw : S.wants ops { dst, op := .indexAddr t x y, type := ty, pos, after, guard } = some true) (hd : dOk S.n dst = true)
 (hx : S.opd x = some (.c (.pt id sz 0 j))) (hy : S.opd y = some (.c (.p (.int ki n)))) (ht : assoc tab t = some d) (hk : d.k = .arr N el) (he : assoc tab el = some e) (hi : n = (i : Int)) (hlt : i < N)
 (hn : AList P ops rest (([], []) :: acc) (S.eff dst ⟨.c (.pt id sz 0 (j + i * e.size)), [], []⟩) Q) : AList P ops ({ dst, op := .indexAddr t x y, type := ty, pos, after, guard } :: rest) acc S Q :=
 AList.val [] _ hw hd (fun S1 h1 _ b0 σ a w R => by
  obtain ⟨-, v, b, e1, e2, e3⟩ := opd_rep R ((h1 x (by simp [Op.operands])).trans hx)
  have e4 := rep_int (opd_rep R ((h1 y (by simp [Op.operands])).trans hy))
  have g1 := ty_arr T ht hk
  obtain ⟨inf, z, u, i1, i2, i3, -⟩ := ty_info T he
  subst hi
  refine ⟨.pointer (some ⟨b, 0 * sz + (j + i * e.size), none⟩), ?_, rfl, v, b, e1, e2, rfl⟩
  have hlt' : (i : Int) < N := by omega
  simp only [execOp, e3, e4, Instr.indexAt, Instr.sureAddr, asIntOf, run_underlying g1, Sem.run_bind, Sem.run_pure, Result.andThen_ok]
  simp [sizeOf, typeInfo, i1, i2, hlt', Addr.add, Nat.add_assoc]) hn
theorem AList.index (T : tabOk P tab = true) {t : TypeId} {i N : Nat} {d e : TD} {el : TypeId} {ki : IntKind} {n : Int} {l m : List CV} (hm : (l.drop (i * e.size)).take e.size = m) (hw : S.wants ops { dst, op := .index t x y, type := ty, pos, after, guard } = some true) (hd : dOk S.n dst = true)
 (hx : S.opd x = some (.ag l)) (hy : S.opd y = some (.c (.p (.int ki n)))) (ht : assoc tab t = some d) (hk : d.k = .arr N el) (he : assoc tab el = some e) (ha : isAg e.k = true) (hi : n = (i : Int)) (hlt : i < N)
 (hn : AList P ops rest (([], []) :: acc) (S.eff dst ⟨.ag m, [], []⟩) Q) : AList P ops ({ dst, op := .index t x y, type := ty, pos, after, guard } :: rest) acc S Q := by
 subst hm
 exact AList.val [] _ hw hd (fun S1 h1 _ b0 σ a w R => by
  obtain ⟨vs, e1, e2⟩ := opd_rep R ((h1 x (by simp [Op.operands])).trans hx)
  have e4 := rep_int (opd_rep R ((h1 y (by simp [Op.operands])).trans hy))
  have g1 := ty_arr T ht hk
  obtain ⟨ud, g2, g3⟩ := ty_ag T he ha
  obtain ⟨inf, z, u, i1, i2, i3, -⟩ := ty_info T he
  subst hi
  have hlt' : (i : Int) < N := by omega
  have hag : ∀ w, (isAgg el).run P w = .ok true w := fun w => by
   simp only [isAgg, Sem.run_bind, run_underlying g2, Result.andThen_ok]
   cases ud <;> first | rfl | cases g3
  refine ⟨.agg ((vs.drop (i * e.size)).take e.size).toArray, ?_, _, rfl, RepL.of_get (by simp [e2.length]) fun j x v hj hv => ?_⟩
  ·simp only [execOp, e1, e4, Instr.index, asIntOf, run_underlying g1, Sem.run_bind, Sem.run_pure, Result.andThen_ok]
   simp [hlt', part, hag, sizeOf, typeInfo, i1, i2]
  ·rw [List.getElem?_take] at hj hv
   split at hj
   ·rename_i hlt2
    rw [if_pos hlt2] at hv
    rw [List.getElem?_drop] at hj hv
    obtain ⟨v', k1, k2⟩ := e2.get hj
    rw [k1] at hv
    cases hv
    exact k2
   ·cases hj) hn
end ops
section rows
variable {α : Type} {c : α → List CV} {z : α} {sz : Nat}
end rows
end
/- Short forms of what is printed often: proofs by default. -/
theorem qr7eo {A0 A1 A2 A3 A4 A5 A6 A7 A8 N G : Prop} (f : A0 → A1 → A2 → A3 → A4 → A5 → A6 → A7 → A8 → N → G) (hn : N) (h0 : A0 := by exact rfl) (h1 : A1 := by exact rfl) (h2 : A2 := by exact rfl) (h3 : A3 := by exact rfl) (h4 : A4 := by exact rfl) (h5 : A5 := by exact rfl) (h6 : A6 := by exact rfl) (h7 : A7 := by first | rfl | omega) (h8 : A8 := by exact oM) : G := f h0 h1 h2 h3 h4 h5 h6 h7 h8 hn
theorem qr8o {A0 A1 A2 A3 A4 A5 A6 A7 A8 N G : Prop} (f : A0 → A1 → A2 → A3 → A4 → A5 → A6 → A7 → A8 → N → G) (hn : N) (h0 : A0 := by exact rfl) (h1 : A1 := by exact rfl) (h2 : A2 := by exact rfl) (h3 : A3 := by exact rfl) (h4 : A4 := by exact rfl) (h5 : A5 := by exact rfl) (h6 : A6 := by exact rfl) (h7 : A7 := by exact rfl) (h8 : A8 := by exact oM) : G := f h0 h1 h2 h3 h4 h5 h6 h7 h8 hn
theorem leT {P : Prop} (h : P := by first | exact LeA.c (LeC.refl _ rfl) | exact LeA.c (LeC.ow _ _ rfl) | exact LeA.c (LeC.pt _ _ _ _ _ rfl) | exact LeA.c (LeC.nil _ rfl) | exact LeA.c (LeC.nils _ _) | (refine LeA.int ?_; omega) | (refine LeA.int ?_; dsimp only; omega) | exact LeA.c (LeC.fz rfl rfl (by first | rfl | omega) (fun i _ j _ => ⟨rfl, by first | rfl | exact rowN_imm (fun _ => rfl) _ i j | exact rowF_imm (fun _ => rfl) _ i j⟩))) : P := h
theorem allF {P : Prop} (h : P := by repeat (first | exact trivial | refine ⟨⟨_, rfl, by first | exact LeA.c (LeC.fn _ 0 _ _ (fun i hi => absurd hi (Nat.not_lt_zero _)) (fun i hi => absurd hi (Nat.not_lt_zero _))) | exact LeA.c (LeC.owB 1000 rfl) | exact LeA.c (LeC.refl _ rfl) | exact LeA.c (LeC.ow _ _ rfl) | exact LeA.c (LeC.pt _ _ _ _ _ rfl) | exact LeA.c (LeC.nil _ rfl) | exact LeA.c (LeC.nils _ _) | (refine LeA.int ?_; omega) | (refine LeA.int ?_; dsimp only; omega) | exact LeA.c (LeC.fz rfl rfl (by first | rfl | omega) (fun i _ j _ => ⟨rfl, by first | rfl | exact rowN_imm (fun _ => rfl) _ i j | exact rowF_imm (fun _ => rfl) _ i j⟩))⟩, ?_⟩)) : P := h
theorem hrF {α : Type} {c : α → List CV} (hc : ∀ x, (c x).all immC = true) {z : α} {L : List α} {S : St} {ren : List (Nat × Option Nat)} {id o n n' sz : Nat} {ty : TypeId} (hr : assoc ren id = some (some o) := by exact rfl) (hh : S.h o = some ⟨true, n, sz, ty, rowF c z L⟩ := by exact rfl) (hn : n' = n := by exact rfl) : HeapOk S ren id ⟨true, n', sz, ty, rowF c z L⟩ := HeapOk.row hr hh hn (fun i _ j _ => ⟨rfl, rowF_imm hc _ i j⟩)
theorem aE : type_of% @AList.load1 := @AList.load1
theorem aU : type_of% @AList.idxArr := @AList.idxArr
section
variable {P : Program}
section ops
variable {ops : Array Oper} {rest : List Oper} {acc : List (List Nat × List Nat)} {S : St} {Q : List (List Nat × List Nat) → St → Prop} {dst : Option Tmp} {ty xt yt : TypeId} {pos : String} {after : Array Edge} {guard : Option (Nat × Bool)} {x y : Operand}
theorem AList.call0 {f : FuncId} {fn : Func} {z : Operand} {xs : Array Operand} {ats : Array TypeId} {args : List V1} {r : AV} {C : Nat → CV} (hw : S.wants ops { dst, op := .call { callee := .value z, args := xs, argTypes := ats }, type := ty, pos, after, guard } = some true) (hd : dOk S.n dst = true)
 (hz : S.opd z = some (.c (.fn f 0 C))) (ha : S.opds xs.toList = some args) (hi : args.all immV = true) (hf : P.funcs[f]? = some fn) (hb : fn.body.isNone = false) (hnm : (fn.name == "runtime.NumGoroutine") = false) (hc : ACalls P f args r)
 (hn : AList P ops rest (([], []) :: acc) (S.eff dst ⟨r, [], []⟩) Q) : AList P ops ({ dst, op := .call { callee := .value z, args := xs, argTypes := ats }, type := ty, pos, after, guard } :: rest) acc S Q :=
 AList.ext [] _ hw hd (fun S1 h1 _ b0 σ a w R => by
  have h2 : S1.opds xs.toList = some args := (opds_congr fun x hx => h1 x (by simp only [Op.operands, Call.operands]; simp; exact .inr (by simpa using hx))).trans ha
  have h3 := opd_rep R ((h1 z (by simp [Op.operands, Call.operands])).trans hz)
  obtain ⟨_, vs, e1, e2, _⟩ := h3
  obtain rfl : vs = [] := List.length_eq_zero_iff.1 e2
  have := hc.at R (opds_rep R h2) hi
  rw [run_callf f fn hf hb hnm #[] #[] e1 w]
  simp only [Goes]
  rw [show (#[] ++ xs.map a.eval ++ #[] : Array Value) = (xs.toList.map a.eval).toArray from Array.ext' (by simp)]
  exact this.mono fun e w' ⟨v, g1, g2, g3⟩ => ⟨v, g1, g2, g3⟩) hn
theorem AList.convI {src t : TypeId} {k k' : IntKind} {i j : Int} (hj : k'.wrap i = j) (hs : (P.underlying src).isSome = true) (ht : P.underlying t = some (.int k')) (hw : S.wants ops { dst, op := .convert src t x, type := ty, pos, after, guard } = some true) (hd : dOk S.n dst = true) (hx : S.opd x = some (.c (.p (.int k i))))
 (hn : AList P ops rest (([], []) :: acc) (S.eff dst ⟨.c (.p (.int k' j)), [], []⟩) Q) : AList P ops ({ dst, op := .convert src t x, type := ty, pos, after, guard } :: rest) acc S Q :=
 AList.val [] _ hw hd (fun S1 g1 _ b0 σ a w R => by
  have e1 := rep_int (opd_rep R ((g1 x (by simp [Op.operands])).trans hx))
  have hk : P.intKind t = k' := by simp [Program.intKind, ht]
  refine ⟨.int k' j, ?_, rep_p rfl⟩
  have h := run_convert_int w src t k i hs (by rw [hk]; exact ht)
  rw [hk, hj] at h
  simp only [execOp, e1, Sem.run_bind, h, Result.andThen_ok, Sem.run_pure]) hn
end ops
end
section
variable {P : Program}
def OTCalls (P : Program) (f : FuncId) (args : List V1) (r : Nat → AV) (B : AB) : Prop :=
 ∀ (O : Nat → Prop) (w : World) (vals : List Value), (∀ b, O b → b < w.heap.size) → RepL (RepV (fun _ => none) O w) args vals →
   Calls P f vals.toArray w fun e w' => ∃ v rv, e = .returned v ∧ OFresh w.heap.size O w' rv B ∧ (∀ (σ : Nat → Option Value) (O' : Nat → Prop) (w'' : World) (id : Nat), σ id = some rv → RepA σ O' w'' (r id) v) ∧ Ext w w'
theorem Rel0.adoptR {b0 : Base} {σ : Nat → Option Value} {S : St} {a : Act} {w w' : World} {dst : Option Tmp} (R : Rel0 b0 σ S a w) (hd : dOk S.n dst = true) {id : Nat} (hf : S.fr id = true) {B : AB} {rv v : Value} {r : Nat → AV} (hE : Ext w w') (hB : OFresh w.heap.size (out b0 σ S.h) w' rv B)
 (hx : ∀ (σ' : Nat → Option Value) (O' : Nat → Prop) (w'' : World) (id : Nat), σ' id = some rv → RepA σ' O' w'' (r id) v) (hpc : ∀ k, k < B.n → ∀ j, j < B.sz → isP (B.F k j) = true) : Rel b0 (S.eff dst ⟨r id, [(id, some B)], [id]⟩) (a.put dst v) w' := by
 obtain ⟨hno, hlow⟩ := R.fr id hf
 obtain ⟨hrow, hB⟩ := hB
 have hsub : ∀ i u, σ i = some u → put σ id (some rv) i = some u := fun i u h => by
  rw [put_ne _ _ (fun e => by rw [e, hno] at h; cases h)]; exact h
 have hb' : ∀ b, baseBlk rv = some b → w.heap.size ≤ b := fun b hb => by
  rcases hB with ⟨rfl, _⟩ | ⟨b', cap, cs, h1, h2, _⟩
  ·cases hb
  ·rw [h1.blk] at hb; cases hb; exact h2
 have hout : ∀ b, out b0 (put σ id (some rv)) (put S.h id (some B)) b → out b0 σ S.h b ∨ w.heap.size ≤ b := fun b hb => by
  rcases hb with ⟨i, u, h1, h2, h3⟩ | hb
  ·by_cases hi : i = id
   ·subst hi
    rw [put_same] at h2
    cases h2
    exact .inr (hb' b h3)
   ·rw [put_ne _ _ hi] at h1 h2
    exact .inl (.inl ⟨i, u, h1, h2, h3⟩)
  ·exact .inl (.inr hb)
 obtain ⟨H, _, hO⟩ := R.hp.put (id := id) (B' := B) (v' := rv) (σ' := put σ id (some rv)) (h' := look [(id, some B)] S.h) (w' := w') hsub (put_same _ _ _) (put_same _ _ _) (fun i hi => .inr (put_ne _ _ hi)) (Keep.of_ext hE)
  (fun i u hi => by
    have h1 := (b0.one i u hi).1
    rw [look_one, put_ne _ _ (by omega)]
    exact (R.hp.fx i u hi).2) (fun i hi => put_ne _ _ (by omega))
  (fun i u b hi h1 h2 h3 => by
    have h1' : S.h i ≠ none := by rw [look_one, put_ne _ _ hi] at h1; exact h1
    exact Below.block hE b (R.hp.lt ⟨i, u, h1', h2, h3⟩))
  (by
    rcases hB with ⟨h1, h2⟩ | ⟨b, cap, cs, h1, h2, h3, h4, h5⟩
    ·exact .inl ⟨hrow, h1, h2⟩
    ·refine .inr (.inl ⟨b, cap, cs, h1, h3, h4, fun k hk j hj => ?_⟩)
     obtain ⟨u, e1, e2⟩ := h5 k hk j hj
     exact ⟨u, e1, isP_rep (hpc k hk j hj) e2⟩)
  (fun b hb => by
    refine ⟨.inl (Nat.le_trans R.ext.size (hb' b hb)), .inr (hb' b hb), fun i u hi h1 h2 h3 => ?_⟩
    have h1' : S.h i ≠ none := by rw [look_one, put_ne _ _ hi] at h1; exact h1
    have := R.hp.lt ⟨i, u, h1', h2, h3⟩
    have := hb' b hb
    omega)
 exact ⟨put σ id (some rv), R.step (e := ⟨r id, [(id, some B)], [id]⟩) hd hsub (Keep.of_ext hE) H hO (fun _ => hx _ _ _ _ (put_same _ _ _)) (fun i hi => by
  by_cases e : i = id
  ·exact .inr (by simp [e])
  ·rw [put_ne _ _ e] at hi; exact .inl hi)⟩
def OwRes2 (tab : List (TypeId × TD)) (S : St) (rs : List ResultVar) (l1 l2 : List CV) (pv : Value) (B : AB) : Prop :=
 ∃ c t bid sz bt F id d e0, rs = [.cell c t, .tmp e0] ∧ S.t e0 = some (.c (.p pv)) ∧ S.t c = some (.c (.pt bid sz 0 0)) ∧ S.h bid = some ⟨false, 1, sz, bt, F⟩ ∧ assoc tab t = some d ∧ isAg d.k = true ∧ d.size = sz ∧ cellsFrom (F 0) 0 d.size = l1 ++ .ow id :: l2 ∧ S.h id = some B ∧ B.row = true ∧
   (∀ k, k < B.n → ∀ j, j < B.sz → immC (B.F k j) = true)
def RetOw2 (tab : List (TypeId × TD)) (rs : List ResultVar) (l1 l2 : List CV) (pv : Value) (B : AB) : Exit → St → Prop
 | .ret, S => ∃ S', Wk S S' ∧ OwRes2 tab S' rs l1 l2 pv B
 | .normal, S => ∃ S', Wk S S' ∧ OwRes2 tab S' rs l1 l2 pv B
 | _, _ => False
theorem otcalls2_at {tab : List (TypeId × TD)} (T : tabOk P tab = true) {f : FuncId} {fn : Func} {c : Code} {rs : List ResultVar} {args : List V1} {l1 l2 : List CV} {pv : Value} {B : AB} {n : Nat} (hf : P.funcs[f]? = some fn) (hb : fn.body = some c) (hr : fn.results = rs.toArray) (hn : fn.ntmps = n) (hl : Nat.ble args.length n = true)
 (hi : (l1.all isP && l2.all isP) = true) (h : AWp P c (RetOw2 tab rs l1 l2 pv B) (entry n args)) : OTCalls P f args (fun id => .tu [.ag (l1 ++ .ow id :: l2), .c (.p pv)]) B := fun O w vals hO hv => by
 subst hn
 rw [Bool.and_eq_true] at hi
 let b0 : Base := ⟨w, O, fun _ => False, fun _ => none, hO, fun b hb => hb.elim, fun b _ h => h, fun i v h => (by cases h), fun _ _ => False, fun _ _ _ => True, none, fun _ _ h => h.elim, fun _ _ _ _ _ _ _ _ => trivial⟩
 have hl' := hv.length
 have hO' : ∀ b, out b0 (fun _ => none) (assoc []) b → O b := fun b hb => hb.elim (fun ⟨i, v, h1, _⟩ => absurd rfl h1) fun h => h
 refine calls_of_awp (b0 := b0) hf hb rfl h ⟨fun _ => none, trivial, ?_, ⟨rfl, rfl, rfl, Nat.le_refl _, fun _ _ _ => rfl⟩, ⟨fun id B hB => (by cases hB), fun i j v1 v2 b hi => absurd rfl hi, fun b ⟨i, v, hi, _⟩ => absurd rfl hi, fun i v hi => (by cases hi), fun _ _ _ => rfl⟩, fun t x hx => ?_, fun id hid => ⟨rfl, Nat.blt_eq.mp hid⟩, fun i v hi => (by cases hi), rfl, trivial⟩ (fun e S hQ => by cases e <;> first | exact .inl rfl | exact .inr rfl | exact hQ.elim) fun e a w' S0 hR0 hQ0 hd0 => ?_
 ·have := Nat.ble_eq.mp hl
  simp [entryL, hl']; omega
 ·obtain ⟨y, e1, rfl⟩ : ∃ y, args[t]? = some y ∧ y.av = x := by simpa [entryL, Option.map_eq_some_iff] using hx
  obtain ⟨v, e2, e3⟩ := hv.get e1
  have ht : (vals.toArray ++ Array.replicate (fn.ntmps - vals.toArray.size) undef).getD t undef = v := by
   have hlt := (List.getElem?_eq_some_iff.1 e2).1
   have := (List.getElem?_eq_some_iff.1 e2).2
   simp [Array.getD_eq_getD_getElem?, Array.getElem?_append, hlt, this]
  rw [ht]
  exact (e3.keep ⟨rfl, rfl, rfl, Nat.le_refl _, fun _ _ _ => rfl⟩ (fun b hb => .inl (hO' b hb)) fun _ _ h => h).av
 ·have fin : ∀ S, Rel b0 S a w' → (∃ S', Wk S S' ∧ OwRes2 tab S' rs l1 l2 pv B) → ∃ v, (results fn a.tmps).run P w' = .ok v w' ∧ ∃ v' rv, Ending.returned v = .returned v' ∧ OFresh w.heap.size O w' rv B ∧ (∀ (σ : Nat → Option Value) (O' : Nat → Prop) (w'' : World) (id : Nat), σ id = some rv → RepA σ O' w'' (.tu [.ag (l1 ++ .ow id :: l2), .c (.p pv)]) v') ∧ Ext w w' := fun S hR ⟨S', hw, c', t, bid, sz, bt, F, id, d, e0, hrs, he0, hc, hh, ht, hk, hz, hcl, hid, hrow, him⟩ => by
   obtain ⟨σ, R⟩ := hw b0 a w' hR
   obtain ⟨b, cap, cs, -, e1, -, e2, -, -, e3⟩ := at_pt R (R.sl c' _ hc) hh rfl (by simp : 0 < 1)
   obtain ⟨ud, g1, g2⟩ := ty_ag T ht hk
   obtain ⟨inf, z, u', i1, i2, i3, -⟩ := ty_info T ht
   simp only at e3
   have hcell : ∀ i, i < d.size → w'.cell? (Addr.add ⟨b, 0 * sz + 0, none⟩ i) = some (cs.getD (0 * sz + (0 + i)) undef) ∧ RepC σ (out b0 σ S'.h) w' (F 0 (0 + i)) (cs.getD (0 * sz + (0 + i)) undef) := fun i hi => by
    obtain ⟨u, f1, f2⟩ := e3 0 (by simp) (0 + i) (by omega)
    rw [add_off, Nat.add_assoc, Array.getD_eq_getD_getElem?, f1]
    exact ⟨(cell_of_row w' b _ cs bt (0, 0) e2).trans f1, f2⟩
   have hrl := rep_cells (R := RepC σ (out b0 σ S'.h) w') (F := F 0) (j := 0) fun i hi => (hcell i hi).2
   rw [hcl] at hrl
   have hsub : ∀ b, O b → out b0 σ S'.h b := fun b hb => .inr hb
   obtain ⟨rv, k1, k2⟩ := R.hp.blk id B hid
   have hs0 := R.sl e0 _ he0
   have hs1 : a.tmps.getD e0 undef = pv := hs0.2
   have hs2 : pv.oneCell' = true := hs1 ▸ hs0.1
   refine ⟨.tuple #[.agg ((List.range d.size).map fun i => cs.getD (0 * sz + (0 + i)) undef).toArray, pv], ?_, _, rv, rfl, ⟨hrow, ?_⟩, fun σ' O' w'' id' hs => ⟨[_, _], rfl, ⟨_, rfl, swap_p k1 hs hi.1 hi.2 hrl⟩, ⟨hs2, rfl⟩, trivial⟩, ?_⟩
   ·have := run_agg (P := P) g1 g2 i1 (w := w') (a := ⟨b, 0 * sz + 0, none⟩) (f := fun i => cs.getD (0 * sz + (0 + i)) undef) (fun i hi => (hcell i (by omega)).1)
    rw [i2] at this
    have hres : (resV (.cell c' t) a.tmps).run P w' = .ok (.agg ((List.range d.size).map fun i => cs.getD (0 * sz + (0 + i)) undef).toArray) w' := by
     simp only [resV, e1, asAddr, Sem.run_bind, Sem.run_pure, Result.andThen_ok, this]
    have hres2 : (resV (.tmp e0) a.tmps).run P w' = .ok pv w' := by simp only [resV, hs1, Sem.run_pure]
    rw [results_eq, hr, hrs]
    generalize hf : (fun rv => resV rv a.tmps) = f
    have hfr : resV (.cell c' t) a.tmps = f (.cell c' t) := by rw [← hf]
    have hfr2 : resV (.tmp e0) a.tmps = f (.tmp e0) := by rw [← hf]
    rw [hfr] at hres
    rw [hfr2] at hres2
    simp [hres, hres2]
   ·rcases k2.row hrow with ⟨_, m1, m2⟩ | ⟨b', cap', cs', m1, m2, m3, m4⟩
    ·exact .inl ⟨m1, m2⟩
    ·refine .inr ⟨b', cap', cs', m1, ?_, m2, m3, fun k hk j hj => ?_⟩
     ·rcases R.hp.new b' ⟨id, rv, by rw [hid]; simp, k1, m1.blk⟩ with h | h
      ·exact h
      ·exact h.elim
     ·obtain ⟨u, n1, n2⟩ := m4 k hk j hj
      exact ⟨u, n1, repC_imm (him k hk j hj) n2.1 ((repI_imm (him k hk j hj) n2).less hsub)⟩
   ·exact ⟨R.ext.os, R.ext.tape, R.ext.output, R.ext.size, fun k hk => R.ext.block k hk fun h => h.elim (fun h => h) fun h => h⟩
  cases e with
  | ret => exact fin S0 hR0 hQ0
  | normal => exact fin S0 hR0 hQ0
  | _ => exact hQ0.elim

section ops
variable {ops : Array Oper} {rest : List Oper} {acc : List (List Nat × List Nat)} {S : St} {Q : List (List Nat × List Nat) → St → Prop} {ty : TypeId} {pos : String} {after : Array Edge} {guard : Option (Nat × Bool)}
theorem AList.callT {f : FuncId} {fn : Func} {id : Nat} {xs : Array Operand} {ats : Array TypeId} {args : List V1} {r : Nat → AV} {B : AB} (hw : S.wants ops { dst := some id, op := .call { callee := .value (.func f), args := xs, argTypes := ats }, type := ty, pos, after, guard } = some true) (hd : dOk S.n (some id) = true) (hfr : S.fr id = true)
 (ha : S.opds xs.toList = some args) (hi : args.all immV = true) (hf : P.funcs[f]? = some fn) (hb : fn.body.isNone = false) (hnm : (fn.name == "runtime.NumGoroutine") = false) (hc : OTCalls P f args r B) (hpc : ∀ k, k < B.n → ∀ j, j < B.sz → isP (B.F k j) = true)
 (hn : AList P ops rest (([id], [id, id]) :: acc) (S.eff (some id) ⟨r id, [(id, some B)], [id]⟩) Q) : AList P ops ({ dst := some id, op := .call { callee := .value (.func f), args := xs, argTypes := ats }, type := ty, pos, after, guard } :: rest) acc S Q :=
 AList.cons [] ⟨r id, [(id, some B)], [id]⟩ (LStep.of hw fun S1 hA _ hal b0 σ a w R => by
  have h2 : S1.opds xs.toList = some args := (opds_congr fun x hx => hA.op x (by simp only [Op.operands, Call.operands]; simp; exact .inr (by simpa using hx))).trans ha
  have hv := opds_rep R h2
  have := hc (out b0 σ S1.h) w (xs.toList.map a.eval) (fun b hb => own_lt R hb) (RepL.of_get hv.length fun i x v h1 h2 => by
   obtain ⟨v', e1, e2⟩ := hv.get h1
   rw [h2] at e1
   cases e1
   exact strip0 (List.all_eq_true.1 hi _ (List.mem_of_getElem? h1)) e2)
  rw [run_callf f fn hf hb hnm #[] #[] rfl w]
  simp only [Goes]
  rw [show (#[] ++ xs.map a.eval ++ #[] : Array Value) = (xs.toList.map a.eval).toArray from Array.ext' (by simp)]
  exact this.mono fun e w' ⟨v, rv, g1, g2, g3, g4⟩ => ⟨v, g1, R.adoptR (by rw [hA.n]; exact hd) ((hal id (by simp)).trans hfr) g4 g2 g3 hpc⟩) hn
end ops
end
section
variable {P : Program}
section ops
variable {ops : Array Oper} {rest : List Oper} {S : St} {Q : St → Prop} {dst : Option Tmp} {ty : TypeId} {pos : String} {after : Array Edge} {guard : Option (Nat × Bool)}
end ops

def RetIt (N : Nat) (stop : Bool) : Exit → St → Prop
 | .ret, S => S.gs = N ∧ S.dd = stop
 | .normal, S => S.gs = N ∧ S.dd = stop
 | _, _ => False
def entryI (G : Base → Prop) (n : Nat) (args : List V1) : St := { n, ln := 0, t := fun i => (args[i]?).map V1.av, h := fun _ => none, fr := fun id => Nat.blt id 1000, G, gs := 0, dd := false }
theorem itcalls_of {gf : FuncId} {fn : Func} {c : Code} {cs : List V1} {xs : Nat → List Value} {M n : Nat} (hf : P.funcs[gf]? = some fn) (hb : fn.body = some c) (hr : fn.results = #[]) (hn : fn.ntmps = n) (hl : Nat.ble (cs.length + 1) n = true)
 (h : ∀ (l N : Nat) (stop : Bool), (stop = true → 0 < N ∧ N ≤ M) → (stop = false → N = M) → AWp P c (RetIt N stop) (entryI (itG P l xs N stop) n (.c (.p (yv l)) :: cs))) : ItCalls P gf cs xs M := fun b0 l N stop vals hfix hY hrd hV h1 h2 hYo hJ hv => by
 subst hn
 have hl' := hv.length
 have hX : ∀ b, out b0 (fun _ => none) (fun _ => none) b → b0.X b := fun b hb => hb.elim (fun ⟨i, v, h1, _⟩ => absurd rfl h1) fun h => h
 refine calls_of_awp (b0 := b0) hf hb hrd (h l N stop h1 h2) ⟨fun _ => none, trivial, ?_, ⟨rfl, rfl, rfl, Nat.le_refl _, fun _ _ _ => rfl⟩, ⟨fun id B hB => (by cases hB), fun i j v1 v2 b hi => absurd rfl hi, fun b ⟨i, v, hi, _⟩ => absurd rfl hi, fun i v hi => (by rw [hfix] at hi; cases hi), fun _ _ _ => rfl⟩, fun t x hx => ?_, fun id hid => ⟨rfl, Nat.blt_eq.mp hid⟩, fun i v hi => (by rw [hfix] at hi; cases hi), ⟨hrd, hY, hV, hYo⟩, hJ⟩ (fun e S hQ => by cases e <;> first | exact .inl rfl | exact .inr rfl | exact hQ.elim) fun e a w S hR hQ hd => ?_
 ·have := Nat.ble_eq.mp hl
  simp [entryI, hl']; omega
 ·have hv' : RepL (RepV (fun _ => none) b0.X b0.w) (.c (.p (yv l)) :: cs) (yv l :: vals) := ⟨⟨rfl, rfl⟩, hv⟩
  obtain ⟨y, e1, rfl⟩ : ∃ y, (V1.c (.p (yv l)) :: cs)[t]? = some y ∧ y.av = x := by simpa [entryI, Option.map_eq_some_iff] using hx
  obtain ⟨v, e2, e3⟩ := hv'.get e1
  have ht : ((yv l :: vals).toArray ++ Array.replicate (fn.ntmps - (yv l :: vals).toArray.size) undef).getD t undef = v := by
   have hlt := (List.getElem?_eq_some_iff.1 e2).1
   have := (List.getElem?_eq_some_iff.1 e2).2
   simp only [Array.getD_eq_getD_getElem?, Array.getElem?_append, List.size_toArray, hlt, if_true, List.getElem?_toArray, e2, Option.getD_some]
  rw [ht]
  exact (e3.keep ⟨rfl, rfl, rfl, Nat.le_refl _, fun _ _ _ => rfl⟩ (fun b hb => .inl (hX b hb)) fun _ _ h => h).av
 ·obtain ⟨g1, g2⟩ : S.gs = N ∧ S.dd = stop := by cases e <;> first | exact hQ | exact hQ.elim
  obtain ⟨σ, R⟩ := hR
  have hext := R.ext
  have hgh := R.gh
  unfold wild at hext
  rw [g1, g2] at hgh
  rw [g2] at hext
  exact ⟨.tuple #[], by rw [results_eq, hr]; simp, ⟨_, rfl⟩, hgh, hext.less fun b hb => hb.elim (fun h => (hY b h).elim) fun h => h⟩
end
end Go.AV
end
