/- Parts of the proof: Flow, Flow2, Base, AMem5, AMem7, AMem9, AMemA, AMemB, AMemC, Low, Same, ImgPut, AOld, A01, ImgPutR. -/
import Derived.Test.YtjjaehpkccejaaaG01
import Derived.StillTail
import Derived.Below
import Derived.Deep.Draws
import Derived.WalkKit
import Derived.KernelRfl
import Derived.Test.YtjjaehpkccejaaaG06
import Derived.Test.YtjjaehpkccejaaaG05
import Derived.Test.YtjjaehpkccejaaaG04
import Derived.Great.BuildSlice
import Derived.Test.YtjjaehpkccejaaaG03
import Derived.Test.YtjjaehpkccejaaaG02
import Derived.RangeFuncLeaves
import Derived.RangeFuncRecord
import Derived.Deep.AppendLies
import Derived.OrdersIn
import Derived.TacticsIn
import Derived.RangeFuncCalls
import Derived.Maps.AppendAt
import Derived.OwnWalk
import Derived.Test.YtjjaehpkccejaaaG07
import Derived.Laws.StructEq
import Derived.Laws.Cover3
import Derived.Test.YtjjaehpkccejaaaG10
import Derived.Test.YtjjaehpkccejaaaProg
import Derived.Lib.Hide
import Derived.Deep.QuietTactic
import Derived.BigQuiet
import Derived.Deep.DrawnRows
import Derived.Test.YtjjaehpkccejaaaG09
set_option linter.unusedSimpArgs false
set_option linter.unusedVariables false
section
namespace Go.Flow
open Go Go.RowKit

theorem Ext.setCell {a b : World} (h : Ext a b) {p : Addr} (hp : a.heap.size ≤ p.block) (v : Value) : Ext a (b.setCell p v) := Below.setCell h hp v
section
variable {P : Program} {ops : Array Oper} {md : Region.Mode} {C : World → Prop}

theorem Comes.upon {o : Oper} {a : Act} {v : Value} {K : Act → World → Prop} {Q : Exit → Act → World → Prop} {r : Result Next}
 (h : Comes P C v r) (hK : ∀ w', C w' → K (a.put o.dst v) w') : o.upon P a K Q r := by
 cases r with
 | ok n w' =>
   cases n <;> simp only [Comes, Oper.upon] at h ⊢
   case value u => obtain ⟨rfl, hc⟩ := h; exact hK _ hc
   case skip => obtain ⟨rfl, hc⟩ := h; exact hK _ hc
   case enter f args => exact h.mono fun e w'' ⟨he, hc⟩ => by subst he; exact hK _ hc
 | halt x w' => simp only [Comes] at h

theorem At.wpOp {i : Nat} {o : Oper} {v : Value} {a : Act} {w : World} {K : Act → World → Prop} {Q : Exit → Act → World → Prop}
 (hi : ops[i]? = some o) (h : At P ops C o v a) (hC : C w) (hK : ∀ w', C w' → K (a.put o.dst v) w') : wpOp P ops Q i K a w := by
 unfold Go.wpOp
 simp only [hi]
 rcases h with ⟨hw, h⟩ | ⟨hw, rfl⟩
 ·rw [if_pos hw]
  exact .inl ((h w hC).upon hK)
 ·rw [if_neg (by simp [hw])]
  exact hK w hC

theorem Walk.callf {Qn : Act → Prop} {a : Act} {rest : List Oper} {v : Value} {dst : Option Tmp} {x : Operand} {xs : Array Operand} {ats : Array TypeId} {ty : TypeId} {pos : String} {after : Array Edge} {guard : Option (Nat × Bool)}
 {f : FuncId} {fn : Func} (hf : P.funcs[f]? = some fn) (hb : fn.body.isNone = false) (hn : (fn.name == "runtime.NumGoroutine") = false) {args : Array Value}
 {first captured : Array Value} (hx : a.eval x = .func (.func f) first captured)
 (hc : ∀ w, C w → Calls P f args w fun e w' => e = .returned v ∧ C w')
 (ha : first.toList ++ xs.toList.map a.eval ++ captured.toList = args.toList)
 (hg : Region.wanted { dst, op := .call { callee := .value x, args := xs, argTypes := ats }, type := ty, pos, after, guard } (yielded ops a.tmps) = true)
 (h : Walk P ops C Qn rest (a.put dst v)) : Walk P ops C Qn ({ dst, op := .call { callee := .value x, args := xs, argTypes := ats }, type := ty, pos, after, guard } :: rest) a :=
 ⟨v, .inl ⟨hg, fun w hw => by rw [run_callf f fn hf hb hn first captured hx w, show first ++ xs.map a.eval ++ captured = args from Array.ext' (by simpa using ha)]; exact hc w hw⟩, h⟩
end
end Go.Flow
end

section
namespace Go.Flow
open Go Go.RowKit
section
variable {P : Program} {ops : Array Oper} {md : Region.Mode}

theorem Goes.upon {o : Oper} {a : Act} {K : Act → World → Prop} {K0 : Value → World → Prop} {Q : Exit → Act → World → Prop} {r : Result Next}
 (h : Goes P K0 r) (hK : ∀ v w', K0 v w' → K (a.put o.dst v) w') : o.upon P a K Q r := by
 cases r with
 | ok n w' =>
   cases n <;> simp only [Goes, Oper.upon] at h ⊢
   case value u => exact hK _ _ h
   case skip => exact hK _ _ h
   case enter f args => exact h.mono fun e w'' ⟨v, he, hc⟩ => by subst he; exact hK _ _ hc
 | halt x w' => simp only [Goes] at h

theorem AtE.later {w w' : World} {o : Oper} {v : Value} {a : Act} (h : AtE P ops w o v a) (hE : Ext w w') : AtE P ops w' o v a :=
 h.imp (fun ⟨hw, h⟩ => ⟨hw, fun w1 h1 => h w1 (hE.trans h1)⟩) id

theorem StE.of_at {i : Nat} {o : Oper} {v : Value} {a : Act} {w w0 : World} {K : Act → World → Prop} (hi : ops[i]? = some o) (h : AtE P ops w0 o v a) (hE : Ext w0 w)
 (hK : ∀ w', Ext w w' → K (a.put o.dst v) w') : StE P ops i K a w := by
 refine ⟨o, hi, ?_⟩
 rcases h with ⟨hw, h⟩ | ⟨hw, rfl⟩
 ·exact .inl ⟨hw, (h w hE).mono fun u w' ⟨hu, hx⟩ => ⟨hx, hu ▸ hK w' hx⟩⟩
 ·exact .inr ⟨hw, hK w (Ext.refl w)⟩
theorem StE.wpOp {i : Nat} {a : Act} {w : World} {K K' : Act → World → Prop} {Q : Exit → Act → World → Prop}
 (h : StE P ops i K a w) (hK : ∀ a' w', Ext w w' → K a' w' → K' a' w') : wpOp P ops Q i K' a w := by
 obtain ⟨o, hi, h⟩ := h
 unfold Go.wpOp
 simp only [hi]
 rcases h with ⟨hw, h⟩ | ⟨hw, h⟩
 ·rw [if_pos hw]
  exact .inl (h.upon fun v w' ⟨h1, h2⟩ => hK _ _ h1 h2)
 ·rw [if_neg (by simp [hw])]
  exact hK _ _ (Ext.refl w) h

/-- The head operations, in whatever order; L at their end; in whatever later world. -/
def AnyE (P : Program) (md : Region.Mode) (ops : Array Oper) (n : Nat) (L : Array Bool → Act → World → Prop) : Nat → Array Bool → Act → World → Prop
 | 0, listed, a, w => ∀ w1, Ext w w1 → L listed a w1
 | f + 1, listed, a, w => ∀ w1, Ext w w1 →
   Region.ready md ops listed ≠ [] ∧ ∀ i ∈ Region.ready md ops listed, i < n ∧ StE P ops i (AnyE P md ops n L f (listed.setIfInBounds i true)) a w1

theorem AnyE.later {n : Nat} {L : Array Bool → Act → World → Prop} {f : Nat} {listed : Array Bool} {a : Act} {w w' : World} (h : AnyE P md ops n L f listed a w) (hE : Ext w w') : AnyE P md ops n L f listed a w' := by
 cases f with
 | zero => exact fun w1 h1 => h w1 (hE.trans h1)
 | succ f => exact fun w1 h1 => h w1 (hE.trans h1)

theorem wpAny_of_anyE {n g : Nat} {L : Array Bool → Act → World → Prop} {Q : Exit → Act → World → Prop} (hL : ∀ listed a w, L listed a w → wpAny P md ops Q g listed a w) :
 ∀ (f : Nat) (listed : Array Bool) (a : Act) (w : World), AnyE P md ops n L f listed a w → wpAny P md ops Q (f + g) listed a w
 | 0, listed, a, w, h => by rw [Nat.zero_add]; exact hL _ _ _ (h w (Ext.refl w))
 | f + 1, listed, a, w, h => by
   rw [show f + 1 + g = (f + g) + 1 by omega]
   have h := h w (Ext.refl w)
   exact ⟨fun h0 => absurd h0 h.1, fun i hi => (h.2 i hi).2.wpOp fun a' w' _ hk => wpAny_of_anyE hL f _ a' w' hk⟩

theorem anyE_first {n i : Nat} {oi : Oper} {v : Value} {L : Array Bool → Act → World → Prop} (hi : ops[i]? = some oi)
 (hsel : ∀ (j : Nat) (o : Oper) cs b, ops[j]? = some o → o.op ≠ .select cs b)
 (htail : ∀ listed, HeadInv md ops n listed → ∀ i, i < n → listed.getD i true = false → ∀ t, n ≤ t → t ∉ Region.ready md ops listed) (hin : i < n)
 (hdone : ∀ listed a w, L listed a w → ∀ j ∈ Region.ready md ops listed, n ≤ j) :
 ∀ (f : Nat) (listed : Array Bool) (a : Act) (w : World), HeadInv md ops n listed →
   (∀ j oj, ops[j]? = some oj → j ≠ i → listed.getD j true = false → (∀ e ∈ oj.after, Region.binds md e = true → e.on ≠ i) → oi.apart ops oj = true) →
   i ∈ Region.ready md ops listed → AtE P ops w oi v a →
   AnyE P md ops n L f (listed.setIfInBounds i true) (a.put oi.dst v) w → AnyE P md ops n L (f + 1) listed a w := by
 intro f
 induction f with
 | zero =>
   intro listed a w inv _ hr hy H w1 hE
   have hun := (mem_ready.1 hr).1
   refine ⟨fun h => (by rw [h] at hr; cases hr), fun j hj => ?_⟩
   have hjn : j < n := (Nat.lt_or_ge j n).resolve_right fun h => absurd hj (htail _ inv i hin hun j h)
   refine ⟨hjn, ?_⟩
   by_cases hji : j = i
   ·subst hji; exact StE.of_at hi hy hE fun w' hE' => AnyE.later H (hE.trans hE')
   ·have := hdone _ _ _ (H w1 hE) j (ready_mono hj hji)
    omega
 | succ f ih =>
   intro listed a w inv hfree hr hy H w1 hE
   have hun := (mem_ready.1 hr).1
   refine ⟨fun h => (by rw [h] at hr; cases hr), fun j hj => ?_⟩
   have hjn : j < n := (Nat.lt_or_ge j n).resolve_right fun h => absurd hj (htail _ inv i hin hun j h)
   refine ⟨hjn, ?_⟩
   by_cases hji : j = i
   ·subst hji; exact StE.of_at hi hy hE fun w' hE' => AnyE.later H (hE.trans hE')
   ·have h1 := ((H w1 hE).2 j (ready_mono hj hji)).2
    obtain ⟨hjun, oj, hoj, hall⟩ := mem_ready.1 hj
    have hnot : ∀ e ∈ oj.after, Region.binds md e = true → e.on ≠ i := fun e he hb heq => by
     have h1 := hall e he hb
     rw [heq, getD_both hun] at h1
     cases h1
    have h2 := StE.put (w0 := w) hoj (hfree j oj hoj hji hjun hnot) (fun cs b => hsel i oi cs b hi) (fun cs b => hsel j oj cs b hoj) hy h1
    have hfree' : ∀ k ok, ops[k]? = some ok → k ≠ i → (listed.setIfInBounds j true).getD k true = false →
     (∀ e ∈ ok.after, Region.binds md e = true → e.on ≠ i) → oi.apart ops ok = true := fun k ok hk hki hun hno => by
     refine hfree k ok hk hki ?_ hno
     by_cases hjk : j = k
     ·subst hjk; exact hjun
     ·rw [getD_set_ne true hjk] at hun; exact hun
    obtain ⟨o', ho', h2⟩ := h2
    refine ⟨o', ho', ?_⟩
    have step : ∀ u w', Ext w1 w' → (AtE P ops w oi v (a.put o'.dst u) ∧ AnyE P md ops n L f ((listed.setIfInBounds i true).setIfInBounds j true) ((a.put o'.dst u).put oi.dst v) w') →
     AnyE P md ops n L (f + 1) (listed.setIfInBounds j true) (a.put o'.dst u) w' := fun u w' hx ⟨h3, h4⟩ => by
     refine ih (listed.setIfInBounds j true) _ w' (inv.set hj hjn) hfree' (ready_mono hr (Ne.symm hji)) (h3.later (hE.trans hx)) ?_
     rw [Array.setIfInBounds_comm _ _ hji]
     exact h4
    exact h2.imp (fun ⟨hw, hg⟩ => ⟨hw, hg.mono fun u w' ⟨hx, hk⟩ => ⟨hx, step u w' hx hk⟩⟩) (fun ⟨hw, hk⟩ => ⟨hw, step _ _ (Ext.refl w1) hk⟩)

/-- The walk along a given order: (k, true): an operation that yields one value from here on; (k, false): one that alone may come up. -/
def WalkE (P : Program) (ops : Array Oper) (Qn : Act → World → Prop) : List (Nat × Bool) → Act → World → Prop
 | [], a, w => ∀ w1, Ext w w1 → Qn a w1
 | (k, true) :: s, a, w => ∃ o v, ops[k]? = some o ∧ AtE P ops w o v a ∧ WalkE P ops Qn s (a.put o.dst v) w
 | (k, false) :: s, a, w => ∀ w1, Ext w w1 → StE P ops k (WalkE P ops Qn s) a w1

def okSeq (ops : Array Oper) (n : Nat) : List (Nat × Bool) → Array Bool → Bool
 | [], listed => Region.seqB .any ops (ops.size - n) n listed
 | (k, b) :: s, listed => decide (k < n) && (Region.ready .any ops listed).contains k &&
     (if b then Region.free .any ops listed k else decide (Region.ready .any ops listed = [k])) && okSeq ops n s (listed.setIfInBounds k true)

theorem anyE_walk {n : Nat} {Lq : Act → World → Prop} (hsel : Region.noSelect ops = true)
 (htail : ∀ listed, HeadInv .any ops n listed → ∀ i, i < n → listed.getD i true = false → ∀ t, n ≤ t → t ∉ Region.ready .any ops listed) :
 ∀ (s : List (Nat × Bool)) (listed : Array Bool) (a : Act) (w : World), HeadInv .any ops n listed → okSeq ops n s listed = true → WalkE P ops Lq s a w →
   AnyE P .any ops n (fun listed' a' w' => Region.seqB .any ops (ops.size - n) n listed' = true ∧ Lq a' w') s.length listed a w
 | [], listed, a, w, _, hB, h => fun w1 h1 => ⟨hB, h w1 h1⟩
 | (k, true) :: s, listed, a, w, inv, hB, h => by
   simp only [okSeq, Bool.and_eq_true, decide_eq_true_eq, if_true] at hB
   obtain ⟨⟨⟨hkn, hr⟩, hf⟩, hB'⟩ := hB
   have hr' : k ∈ Region.ready .any ops listed := by simpa using hr
   obtain ⟨o, v, ho, hat, hK⟩ := h
   exact anyE_first ho (Region.noSelect_spec hsel) htail hkn (fun listed' a' w' hL => seqB_ready hL.1) s.length listed a w inv (Region.free_spec ho hf) hr' hat
    (anyE_walk hsel htail s _ _ w (inv.set hr' hkn) hB' hK)
 | (k, false) :: s, listed, a, w, inv, hB, h => by
   simp only [okSeq, Bool.and_eq_true, decide_eq_true_eq, Bool.false_eq_true, if_false] at hB
   obtain ⟨⟨⟨hkn, hr⟩, hf⟩, hB'⟩ := hB
   have hr' : k ∈ Region.ready .any ops listed := by simpa using hr
   intro w1 h1
   refine ⟨by rw [hf]; simp, fun i hi => ?_⟩
   rw [hf] at hi
   obtain rfl : i = k := by simpa using hi
   exact ⟨hkn, (h w1 h1).mono fun a' w' hk => anyE_walk hsel htail s _ a' w' (inv.set hr' hkn) hB' hk⟩

theorem WalkL.toE {l : List Oper} {Qn : Act → World → Prop} {n : Nat} : ∀ (s : List (Nat × Bool)) (listed : Array Bool) (a : Act) (w : World), okSeq l.toArray n s listed = true →
 WalkL P l.toArray Qn (s.map fun x => (l.getD x.1 default, x.2)) a w → WalkE P l.toArray Qn s a w
 | [], _, _, _, _, h => h
 | (k, b) :: s, listed, a, w, hB, h => by
   simp only [okSeq, Bool.and_eq_true, decide_eq_true_eq] at hB
   obtain ⟨⟨⟨_, hr⟩, _⟩, hB'⟩ := hB
   have hr' : k ∈ Region.ready .any l.toArray listed := by simpa using hr
   obtain ⟨_, o, ho, _⟩ := mem_ready.1 hr'
   have hl : l.getD k default = o := by
    have : l[k]? = some o := by simpa using ho
    simp [List.getD, this]
   simp only [List.map_cons, hl] at h
   cases b with
   | true =>
     obtain ⟨v, hat, hk⟩ := h
     exact ⟨o, v, ho, hat, WalkL.toE s _ _ _ hB' hk⟩
   | false =>
     intro w1 h1
     exact ⟨o, ho, (h w1 h1).imp (fun ⟨hw, hg⟩ => ⟨hw, hg.mono fun u w' ⟨hx, hk⟩ => ⟨hx, WalkL.toE s _ _ _ hB' hk⟩⟩) (fun ⟨hw, hk⟩ => ⟨hw, WalkL.toE s _ _ _ hB' hk⟩)⟩

def okFlow (ops : Array Oper) (n : Nat) (s : List (Nat × Bool)) : Bool :=
 Region.noSelect ops && decide (n ≤ ops.size) && (decide (n = ops.size) || (Region.sinkB .any ops n && Region.chainB .any ops n)) &&
  decide (s.length = n) && okSeq ops n s (Array.replicate ops.size false)

theorem wp_flow {id : Nat} {Q : Exit → Act → World → Prop} {a : Act} {w : World} {l : List Oper} (n : Nat) (s : List (Nat × Bool)) (hm : P.follows .mixedOrders = true) (hB : okFlow l.toArray n s = true)
 (h : WalkL P l.toArray (fun a' w' => wpList P l.toArray Q (l.drop n) a' w') (s.map fun x => (l.getD x.1 default, x.2)) a w) : (Code.region id l.toArray true).wp P Q a w := by
 simp only [okFlow, Bool.and_eq_true, Bool.or_eq_true, decide_eq_true_eq] at hB
 obtain ⟨⟨⟨⟨hsel, hn⟩, hs⟩, hlen⟩, hseq⟩ := hB
 have hn' : n ≤ l.length := by simpa using hn
 have hdl : (l.drop n).length = l.toArray.size - n := by simp
 have inv0 : HeadInv .any l.toArray n (Array.replicate l.toArray.size false) :=
  ⟨by simp, fun j oj _ hl => (by rw [getD_replicate_false] at hl; cases hl), fun t _ ht => getD_in (by simpa using ht) (getD_replicate_false _ _)⟩
 have htail : ∀ listed, HeadInv .any l.toArray n listed → ∀ i, i < n → listed.getD i true = false → ∀ t, n ≤ t → t ∉ Region.ready .any l.toArray listed := by
  intro listed inv i hi hun t ht
  by_cases hsz : n < l.toArray.size
  ·rcases hs with hs | hs
   ·omega
   ·exact tail_waits hs.1 hs.2 hsz inv _ i rfl hi hun t ht
  ·intro hr
   obtain ⟨_, o, ho, _⟩ := mem_ready.1 hr
   have := (Array.getElem?_eq_some_iff.1 ho).1
   omega
 replace h := WalkL.toE (l := l) s _ a w hseq h
 have hdrew : WalkE P l.toArray (fun a' w' => wpList P l.toArray Q (l.drop n) a' w') s a w.drew := by
  have hE : Ext w w.drew := (Ext.refl w).drew
  have go : ∀ (s : List (Nat × Bool)) (a : Act), WalkE P l.toArray (fun a' w' => wpList P l.toArray Q (l.drop n) a' w') s a w → WalkE P l.toArray (fun a' w' => wpList P l.toArray Q (l.drop n) a' w') s a w.drew := by
   intro s
   induction s with
   | nil => exact fun a h w1 h1 => h w1 (hE.trans h1)
   | cons x s ih =>
     obtain ⟨k, b⟩ := x
     cases b with
     | true => exact fun a ⟨o, v, ho, hat, hk⟩ => ⟨o, v, ho, hat.later hE, ih _ hk⟩
     | false => exact fun a h w1 h1 => h w1 (hE.trans h1)
  exact go s a h
 have H := anyE_walk hsel htail s _ a w.drew inv0 hseq hdrew
 refine wp_region_any hm ?_
 have := wpAny_of_anyE (Q := Q) (g := l.toArray.size - n) (fun listed a' w' hL => by
  have := wpAny_of_seq (md := .any) (Q' := Q) (l.drop n) n listed a' w' (fun j => by simp [List.getElem?_drop]) (by rw [hdl]; exact hL.1) hL.2
  rwa [hdl] at this) _ _ _ _ H
 rw [hlen, show n + (l.toArray.size - n) = l.toArray.size by omega] at this
 exact this

variable {Qn : Act → World → Prop} {s : List (Oper × Bool)} {a : Act} {w : World} {v : Value}
theorem WalkL.callf {dst : Option Tmp} {x : Operand} {xs : Array Operand} {ats : Array TypeId} {ty : TypeId} {pos : String} {after : Array Edge} {guard : Option (Nat × Bool)}
 {f : FuncId} {fn : Func} (hf : P.funcs[f]? = some fn) (hb : fn.body.isNone = false) (hn : (fn.name == "runtime.NumGoroutine") = false) {args : Array Value}
 {first captured : Array Value} (hx : a.eval x = .func (.func f) first captured)
 (hc : ∀ w1, Ext w w1 → Calls P f args w1 fun e w' => e = .returned v ∧ Ext w1 w')
 (ha : first.toList ++ xs.toList.map a.eval ++ captured.toList = args.toList)
 (hg : Region.wanted { dst, op := .call { callee := .value x, args := xs, argTypes := ats }, type := ty, pos, after, guard } (yielded ops a.tmps) = true)
 (h : WalkL P ops Qn s (a.put dst v) w) : WalkL P ops Qn (({ dst, op := .call { callee := .value x, args := xs, argTypes := ats }, type := ty, pos, after, guard }, true) :: s) a w :=
 ⟨v, .inl ⟨hg, fun w1 h1 => by
   rw [run_callf f fn hf hb hn first captured hx w1, show first ++ xs.map a.eval ++ captured = args from Array.ext' (by simpa using ha)]
   exact (hc w1 h1).mono fun _ _ ⟨he, hx⟩ => ⟨v, he, rfl, hx⟩⟩, h⟩
end
end Go.Flow
end

section
namespace Go.Flow
open Go Go.RowKit

section
variable {w w' W : World} {g : Nat} {t : TypeId} {cs : Array Value}
theorem Blk.frozen (h : Blk w g t cs) (i : Nat) : w.frozen? ⟨g, i, none⟩ = false := by
 unfold Blk at h
 simp [World.frozen?, h]
theorem Blk.new' {g : Nat} (hg : g = w.heap.size) (t : TypeId) (cs : Array Value) : Blk (w.alloc (.cells cs t)) g t cs := hg ▸ Blk.new w t cs
theorem Blk.set_ (h : Blk w g t cs) (i : Nat) (u : Value) : Blk (w.setCell ⟨g, i, none⟩ u) g t (cs.setIfInBounds i u) := by
 unfold Blk at h ⊢
 simp [World.setCell, Array.getElem?_modify, h]
theorem Blk.far (h : Blk w g t cs) {p : Addr} (hp : g ≠ p.block) (u : Value) : Blk (w.setCell p u) g t cs := (Below.heap_setCell w p u g hp).trans h

/-- Rules for the walk: what is known of an elder world is known of the world at hand. -/
theorem Blk.rules (h : Blk w g t cs) : (∀ i, w.cell? ⟨g, i, none⟩ = cs[i]?) ∧ (∀ i, w.frozen? ⟨g, i, none⟩ = false) ∧ g < w.heap.size := ⟨h.cell, h.frozen, h.lt⟩
end
theorem Ext.rules {W w : World} (h : Ext W w) : (∀ p : Addr, p.block < W.heap.size → w.cell? p = W.cell? p) ∧ (∀ p : Addr, p.block < W.heap.size → w.frozen? p = W.frozen? p) :=
 ⟨fun _ hp => Below.cell h hp, fun _ hp => Below.frozen h hp⟩
theorem lt_of_cell {w : World} {a : Addr} {k : Nat} {v : Value} (h : w.cell? (a.add k) = some v) : a.block < w.heap.size := by
 have := World.block_lt_of_cell? w _ h; rwa [block_add] at this

def upd (F : Nat → Value) (i : Nat) (v : Value) : Nat → Value := fun k => if k = i then v else F k
section
variable {w w' : World} {g : Nat} {t : TypeId} {n : Nat} {F G : Nat → Value}
theorem Own.frozen (h : Own w g t n F) (k : Nat) : w.frozen? ⟨g, k, none⟩ = false := let ⟨_, hb, _⟩ := h; hb.frozen k
theorem Own.set_ (h : Own w g t n F) (i : Nat) (v : Value) : Own (w.setCell ⟨g, i, none⟩ v) g t n (upd F i v) := by
 obtain ⟨cs, hb, hs, hc⟩ := h
 refine ⟨_, hb.set_ i v, by simpa using hs, fun k hk => ?_⟩
 unfold upd
 by_cases e : k = i
 ·subst e; simp [hs, hk]
 ·rw [if_neg e, Array.getElem?_setIfInBounds_ne (Ne.symm e)]; exact hc k hk
theorem Own.far (h : Own w g t n F) {p : Addr} (hp : g ≠ p.block) (u : Value) : Own (w.setCell p u) g t n F := let ⟨cs, hb, hr⟩ := h; ⟨cs, hb.far hp u, hr⟩
end

theorem Only.set_ (w : World) (g i : Nat) (v : Value) : Only w (w.setCell ⟨g, i, none⟩ v) g :=
 ⟨rfl, rfl, rfl, by simp [World.setCell], fun k _ hne => Below.heap_setCell w ⟨g, i, none⟩ v k (fun e => hne (by rw [e]))⟩
/-- 'make([]T, n)', T of one cell: n zero elements in a new block. -/
theorem wpList_make {P : Program} {w : World} {ops : Array Oper} {rest : List Oper} {o : Oper} {a : Act} {Q : Exit → Act → World → Prop}
 (hg : o.guard = none) (l c : Operand) (t : TypeId) (hop : o.op = Op.makeSlice t l c)
 (e : TypeId) (i : TypeInfo) (z : Value) (h1 : P.underlying t = some (.slice e)) (h2 : P.info? e = some i) (h3 : i.zero = some z) (h4 : i.size = 1) (hz : z.cells = #[z])
 (kl kc : IntKind) (L C : Int) (n : Nat) (hl : a.eval l = .int kl L) (hc : a.eval c = .int kc C) (hL : L = (n : Int)) (hC : C = (n : Int)) (b2 : i.bytes * n ≤ 281474976710656) (b3 : n ≤ 4611686018427387904)
 (hK : ∀ w', Own w' w.heap.size e n (fun _ => z) → Ext w w' → wpList P ops Q rest (a.put o.dst (.slice (some ⟨w.heap.size, 0, none⟩) n n)) w') :
 wpList P ops Q (o :: rest) a w := by
 refine wpList_plain hg fun K hK' => ?_
 have hb' : (i.bytes : Int) * (n : Int) ≤ 281474976710656 := by
  have h : ((i.bytes * n : Nat) : Int) ≤ 281474976710656 := by omega
  rwa [Int.natCast_mul] at h
 have hrun := run_make (P := P) w t e i z h1 h2 h3 kl kc n n (by omega) (by omega) hb' (by omega)
 simp only [Int.toNat_natCast, h4, Nat.mul_one] at hrun
 subst hL
 subst hC
 unfold Oper.wp
 simp [execOp, hop, hl, hc, hrun, Result.andThen]
 refine hK' _ _ (hK _ ⟨_, Blk.new _ _ _, size_madeCells _ _, fun k hk => ?_⟩ ((Ext.refl w).alloc _))
 simp [madeCells, hz, hk, Nat.mod_one]

end Go.Flow
end

section
namespace Go.AV
open Go Go.RowKit Go.Flow
section
variable {P : Program} {tab : List (TypeId × TD)}
section ops
variable {ops : Array Oper} {rest : List Oper} {acc : List (List Nat × List Nat)} {S : St} {Q : List (List Nat × List Nat) → St → Prop} {dst : Option Tmp} {ty : TypeId} {pos : String} {after : Array Edge} {guard : Option (Nat × Bool)}
variable {x y : Operand} {xt yt : TypeId} {i j : Int}
/-- A list appended to an empty own row. -/
theorem AList.appL0 (T : tabOk P tab = true) {id id1 : Nat} {s : Operand} {t el : TypeId} {d e : TD} {m : Nat} {F G : Nat → Nat → CV}
 (hw : S.wants ops { dst := some id, op := .call { callee := .builtin .append, args := #[s, x], argTypes := #[t, t] }, type := ty, pos, after, guard } = some true) (hd : dOk S.n (some id) = true) (hf : S.fr id = true)
 (hs : S.opd s = some (.c (.ow id1))) (hx : S.opd x = some (.c (.ls m e.size G))) (ht : assoc tab t = some d) (hk : d.k = .sl el) (he : assoc tab el = some e) (hh : S.h id1 = some ⟨true, 0, e.size, el, F⟩) (hsz : (Nat.blt 0 e.size && Nat.blt id1 1000) = true)
 (h63 : m ≤ 4611686018427387904) (hb : m * e.bytes ≤ 140737488355328)
 (hn : AList P ops rest (([id1, id], [id1, id, id]) :: acc) (S.eff (some id) ⟨.c (.ow id), [(id1, none), (id, some ⟨true, m, e.size, el, G⟩)], [id]⟩) Q) :
 AList P ops ({ dst := some id, op := .call { callee := .builtin .append, args := #[s, x], argTypes := #[t, t] }, type := ty, pos, after, guard } :: rest) acc S Q :=
 AList.appL T hw hd hf hs hx ht hk he hh hsz (by omega) (by rw [Nat.zero_add]; exact hb) (by rw [Nat.zero_add]; exact hn)
end ops
section code
variable {next : St → Prop} {Q : Exit → St → Prop} {S : St} {id k : Nat}
end code
end
end Go.AV
end

section
namespace Go.AV
open Go Go.RowKit Go.Flow
section
variable {P : Program}
/-- A row that nobody else knows. -/
def OFresh (base : Nat) (O : Nat → Prop) (w : World) (rv : Value) (B : AB) : Prop :=
 B.row = true ∧ ((rv = .slice none 0 0 ∧ B.n = 0) ∨ ∃ b cap cs, OBase B rv b cap ∧ base ≤ b ∧ w.heap[b]? = some (.cells cs B.ty (0, 0)) ∧ cs.size = cap * B.sz ∧ ∀ k, k < B.n → ∀ j, j < B.sz → ∃ u, cs[k * B.sz + j]? = some u ∧ RepC (fun _ => none) O w (B.F k j) u)
theorem swap_p {σ σ' : Nat → Option Value} {O O' : Nat → Prop} {w w' : World} {id id' : Nat} {rv : Value} (h1 : σ id = some rv) (h2 : σ' id' = some rv) : ∀ {l1 : List CV} {l2 : List CV} {vs : List Value}, l1.all isP = true → l2.all isP = true → RepL (RepC σ O w) (l1 ++ .ow id :: l2) vs → RepL (RepC σ' O' w') (l1 ++ .ow id' :: l2) vs
 | x :: l1, l2, v :: vs, hi, hj, h => by
   rw [List.all_cons, Bool.and_eq_true] at hi
   exact ⟨isP_rep hi.1 h.1, swap_p h1 h2 hi.2 hj h.2⟩
 | [], l2, v :: vs, _, hj, h => by
   obtain ⟨g1, g2, g3⟩ := h.1
   rw [h1] at g2
   refine ⟨⟨g1, h2.trans g2, g3⟩, RepL.of_get h.2.length fun i x u e1 e2 => ?_⟩
   obtain ⟨u', e3, e4⟩ := h.2.get e1
   rw [e2] at e3
   cases e3
   exact isP_rep (List.all_eq_true.1 hj _ (List.mem_of_getElem? e1)) e4
 | [], _, [], _, _, h => h.elim
 | _ :: _, _, [], _, _, h => h.elim
section ops
variable {ops : Array Oper} {rest : List Oper} {acc : List (List Nat × List Nat)} {S : St} {Q : List (List Nat × List Nat) → St → Prop} {ty : TypeId} {pos : String} {after : Array Edge} {guard : Option (Nat × Bool)}
end ops
end
end Go.AV
end

section
namespace Go.AV
open Go Go.RowKit Go.Flow
section
variable {P : Program}
section ops
variable {ops : Array Oper} {rest : List Oper} {acc : List (List Nat × List Nat)} {S : St} {Q : List (List Nat × List Nat) → St → Prop} {dst : Option Tmp} {ty xt yt : TypeId} {pos : String} {after : Array Edge} {guard : Option (Nat × Bool)} {x y : Operand} {tab : List (TypeId × TD)}
theorem AList.neB {p q : Bool} (hw : S.wants ops { dst, op := .binOp .neq xt x y yt, type := ty, pos, after, guard } = some true) (hd : dOk S.n dst = true) (hx : S.opd x = some (.c (.p (.bool p)))) (hy : S.opd y = some (.c (.p (.bool q)))) (hu : P.underlying xt = some .bool)
 (hn : AList P ops rest (([], []) :: acc) (S.eff dst ⟨.c (.p (.bool (!(p == q)))), [], []⟩) Q) : AList P ops ({ dst, op := .binOp .neq xt x y yt, type := ty, pos, after, guard } :: rest) acc S Q :=
 AList.bin hw hd hx hy rfl (fun w => by simp [binOp, run_equal_bool w xt p q hu]) rfl hn
theorem AList.loadAlE (T : tabOk P tab = true) {t : TypeId} {n sz k j : Nat} {F : Nat → Nat → CV} {d : TD} {l : List CV} (hl : cellsFrom (F k) j d.size = l) (hw : S.wants ops { dst, op := .load t x, type := ty, pos, after, guard } = some true) (hd : dOk S.n dst = true)
 (hx : S.opd x = some (.c (.pl n sz F k j))) (ht : assoc tab t = some d) (hk : isAg d.k = true) (hj : j + d.size ≤ sz)
 (hn : AList P ops rest (([], []) :: acc) (S.eff dst ⟨.ag l, [], []⟩) Q) : AList P ops ({ dst, op := .load t x, type := ty, pos, after, guard } :: rest) acc S Q := by
 subst hl
 exact AList.loadAl T hw hd hx ht hk hj hn
end ops
section rows
variable {α : Type} {c : α → List CV} {z : α} {sz : Nat}
theorem row_take (L : List α) (h : Nat) : ∀ k, k < h → ∀ j, j < sz → rowF c z L k j = rowF c z (L.take h) k j := fun k hk j _ => by
 simp only [rowF, List.getD_eq_getElem?_getD, List.getElem?_take, if_pos hk]
end rows
end
/- Short forms of what is printed often: proofs by default. -/
theorem qr4k {A0 A1 A2 A3 A4 N G : Prop} (f : A0 → A1 → A2 → A3 → A4 → N → G) (hn : N) (h0 : A0 := by exact rfl) (h1 : A1 := by exact rfl) (h2 : A2 := by exact rfl) (h3 : A3 := by exact rfl) (h4 : A4 := by kernel_rfl) : G := f h0 h1 h2 h3 h4 hn
end Go.AV
end

section
namespace Go.AV
open Go Go.RowKit Go.Flow
section
variable {P : Program}
section ops
variable {ops : Array Oper} {rest : List Oper} {acc : List (List Nat × List Nat)} {S : St} {Q : List (List Nat × List Nat) → St → Prop} {dst : Option Tmp} {ty : TypeId} {pos : String} {after : Array Edge} {guard : Option (Nat × Bool)}
section
variable {tab : List (TypeId × TD)}
/-- A slice literal that is our own. -/
theorem AList.litOw (T : tabOk P tab = true) {id t el len : Nat} {d e : TD} {ps : Array (Nat × Operand)} {pv : List (Nat × List CV)} {l : List CV} (hw : S.wants ops { dst := some id, op := .buildSlice t len ps, type := ty, pos, after, guard } = some true) (hd : dOk S.n (some id) = true) (hf : S.fr id = true)
 (ht : assoc tab t = some d) (hk : d.k = .sl el) (he : assoc tab el = some e) (ho : vsOne e.zero = true) (hp : partsV S ps.toList = some pv) (hpos : Nat.beq (len * e.size) 0 = false) (hsm : Nat.ble (len * e.size) 65536 = true)
 (hl : fillC (fun i => some (i * e.size, e.size)) ((List.range (len * e.size)).map fun p => .p (e.zero.getD (p % e.size) undef)) pv = some l)
 (hn : AList P ops rest (([id], [id, id]) :: acc) (S.eff (some id) ⟨.c (.ow id), [(id, some ⟨true, len, e.size, el, sF l e.size⟩)], [id]⟩) Q) : AList P ops ({ dst := some id, op := .buildSlice t len ps, type := ty, pos, after, guard } :: rest) acc S Q :=
 AList.new (B := ⟨true, len, e.size, el, sF l e.size⟩) [] hw hd hf (fun S1 h1 _ b0 σ a w R => by
  obtain ⟨inf, z, u, i1, i2, i3, i4, i5, i6, -⟩ := ty_info T he
  have hp1 : partsV S1 ps.toList = some pv := (partsV_congr fun p hp => h1 p.2 (by simp only [Op.operands]; simp; exact ⟨p.1, by simpa using hp⟩)).trans hp
  obtain ⟨q1, q2⟩ := parts_rep R hp1
  have hne : ¬ len * e.size = 0 := fun h => by rw [h] at hpos; cases hpos
  have hzs : z.cells.size = e.size := by rw [i5]; simp [i6]
  have hep : 0 < e.size := Nat.pos_of_ne_zero fun h => hne (by rw [h, Nat.mul_zero])
  have hz0 : RepL (RepC σ (out b0 σ S1.h) w) ((List.range (len * e.size)).map fun p => CV.p (e.zero.getD (p % e.size) undef)) ((Array.range (len * inf.size)).map (z.cells[· % z.cells.size]!)).toList := by
   rw [i2]
   refine RepL.of_get (by simp) fun i x v g1 g2 => ?_
   have hi : i < len * e.size := by have := (List.getElem?_eq_some_iff.1 g1).1; simpa using this
   have hm : i % e.size < e.zero.length := by rw [i6]; exact Nat.mod_lt _ hep
   rw [List.getElem?_map, List.getElem?_range hi] at g1
   cases g1
   have : v = e.zero[i % e.size] := by
    rw [Array.getElem?_toList] at g2
    have hm2 : i % z.cells.size < z.cells.size := by rw [hzs]; exact Nat.mod_lt _ hep
    simp [hi] at g2
    rw [← g2]
    have h3 : i % z.cells.size = i % e.size := by rw [hzs]
    simp only [h3]
    simp [i5, hm]
   subst this
   show RepC _ _ _ (CV.p (e.zero.getD (i % e.size) undef)) _
   rw [show e.zero.getD (i % e.size) undef = e.zero[i % e.size] by simp [List.getD, hm]]
   exact ⟨List.all_eq_true.1 ho _ (List.getElem_mem hm), rfl⟩
  obtain ⟨cs', r1, r2⟩ := fill_rep (R := RepC σ (out b0 σ S1.h) w) (place' := fun i => some (i * inf.size, inf.size)) (fun i => by rw [i2]) hl hz0 q1 q2
  have hrun := run_buildSlice (P := P) w t el len (ps.map fun p => (p.1, a.eval p.2)) cs' inf z (ty_sl T ht hk) i1 i4 (by rw [i2]; have := Nat.ble_eq.mp hsm; omega) (by rw [i2]; exact hne) (by simpa using r1)
  have hex : (execOp a.eval { dst := some id, op := .buildSlice t len ps, type := ty, pos, after, guard }).run P w = .ok (.value (.slice (some ⟨w.heap.size, 0, none⟩) len len)) (w.alloc (.cells cs' el)) := by
   simp only [execOp, hrun, Sem.run_bind, Result.andThen_ok, Sem.run_pure]
  have hcl := r2.length
  have hll : l.length = len * e.size := by
   have : ∀ (pv : List (Nat × List CV)) (c l : List CV), fillC (fun i => some (i * e.size, e.size)) c pv = some l → l.length = c.length := by
    intro pv
    induction pv with
    | nil => intro c l h; cases h; rfl
    | cons p pv ih =>
      intro c l h
      unfold fillC at h
      simp only at h
      cases hb : (Nat.beq p.2.length e.size && Nat.ble (p.1 * e.size + p.2.length) c.length) with
      | false => rw [hb] at h; cases h
      | true =>
        rw [hb] at h
        rw [ih _ _ h]
        simp only [Bool.and_eq_true] at hb
        have := Nat.ble_eq.mp hb.2
        simp
        omega
   rw [this _ _ _ hl]
   simp
  refine ⟨.slice (some ⟨w.heap.size, 0, none⟩) len len, len, cs', hex, .inl ⟨rfl, rfl, Nat.le_refl _, ?_⟩, by simpa [hll] using hcl, fun k hk j hj => ?_, fun σ' O' w' h => rep_ow h⟩
  ·have h1 := Nat.ble_eq.mp hsm
   have h2 := Nat.le_mul_of_pos_right len hep
   simp only [maxLen]
   omega
  ·have hlt := cell_in hk hj
   have e1 := List.getElem?_eq_getElem (l := l) (i := k * e.size + j) (by rw [hll]; exact hlt)
   obtain ⟨u, f1, f2⟩ := r2.get e1
   refine ⟨u, by rw [← Array.getElem?_toList]; exact f1, ?_⟩
   have : sF l e.size k j = l[k * e.size + j]'(by rw [hll]; exact hlt) := by unfold sF; rw [List.getD_eq_getElem?_getD, e1]; rfl
   show RepC _ _ _ (sF l e.size k j) u
   rw [this]
   exact f2) hn
end
end ops
end
end Go.AV
end

section
namespace Go.AV
open Go Go.RowKit Go.Flow
section
variable {P : Program}
section ops
variable {ops : Array Oper} {rest : List Oper} {acc : List (List Nat × List Nat)} {S : St} {Q : List (List Nat × List Nat) → St → Prop} {dst : Option Tmp} {ty xt yt : TypeId} {pos : String} {after : Array Edge} {guard : Option (Nat × Bool)} {x y : Operand}
/-- A negation that may wrap. -/
theorem AList.negW {i : Int} (hw : S.wants ops { dst, op := .unOp .neg xt x, type := ty, pos, after, guard } = some true) (hd : dOk S.n dst = true) (hx : S.opd x = some (.c (.p (.int .i64 i))))
 (hn : AList P ops rest (([], []) :: acc) (S.eff dst ⟨.c (.p (.int .i64 (IntKind.i64.wrap (-i)))), [], []⟩) Q) : AList P ops ({ dst, op := .unOp .neg xt x, type := ty, pos, after, guard } :: rest) acc S Q :=
 AList.un hw hd hx (fun w => by simp [Op.unary, Op.intArith]) rfl hn
end ops
end
end Go.AV
end

section
namespace Go.AV
open Go Go.RowKit Go.Flow
section
variable {P : Program}
/-- The result is r id, where id is the row B. -/
def OTCalls (P : Program) (f : FuncId) (args : List V1) (r : Nat → AV) (B : AB) : Prop :=
 ∀ (O : Nat → Prop) (w : World) (vals : List Value), (∀ b, O b → b < w.heap.size) → RepL (RepV (fun _ => none) O w) args vals →
   Calls P f vals.toArray w fun e w' => ∃ v rv, e = .returned v ∧ OFresh w.heap.size O w' rv B ∧ (∀ (σ : Nat → Option Value) (O' : Nat → Prop) (w'' : World) (id : Nat), σ id = some rv → RepA σ O' w'' (r id) v) ∧ Ext w w'
theorem Rel0.adoptR {b0 : Base} {σ : Nat → Option Value} {S : St} {a : Act} {w w' : World} {dst : Option Tmp} (R : Rel0 b0 σ S a w) (hd : dOk S.n dst = true) {id : Nat} (hf : S.fr id = true) {B : AB} {rv v : Value} {r : Nat → AV} (hE : Ext w w') (hB : OFresh w.heap.size (out b0 σ S.h) w' rv B)
 (hx : ∀ (σ' : Nat → Option Value) (O' : Nat → Prop) (w'' : World) (id : Nat), σ' id = some rv → RepA σ' O' w'' (r id) v) (hpc : ∀ k, k < B.n → ∀ j, j < B.sz → isP (B.F k j) = true) : Rel b0 (S.eff dst ⟨r id, [(id, some B)], [id]⟩) (a.put dst v) w' := by
 obtain ⟨hno, hlow⟩ := R.fr id hf
 obtain ⟨hrow, hB⟩ := hB
 have hsub : ∀ i u, σ i = some u → put σ id (some rv) i = some u := fun i u h => by
  rw [put_ne _ _ (fun e => by rw [e, hno] at h; cases h)]; exact h
 have hb' : ∀ b, baseBlk rv = some b → w.heap.size ≤ b := fun b hb => by
  rcases hB with ⟨rfl, _⟩ | ⟨b', cap, cs, h1, h2, _⟩
  ·cases hb
  ·rw [h1.blk] at hb; cases hb; exact h2
 have hout : ∀ b, out b0 (put σ id (some rv)) (put S.h id (some B)) b → out b0 σ S.h b ∨ w.heap.size ≤ b := fun b hb => by
  rcases hb with ⟨i, u, h1, h2, h3⟩ | hb
  ·by_cases hi : i = id
   ·subst hi
    rw [put_same] at h2
    cases h2
    exact .inr (hb' b h3)
   ·rw [put_ne _ _ hi] at h1 h2
    exact .inl (.inl ⟨i, u, h1, h2, h3⟩)
  ·exact .inl (.inr hb)
 obtain ⟨H, _, hO⟩ := R.hp.put (id := id) (B' := B) (v' := rv) (σ' := put σ id (some rv)) (h' := look [(id, some B)] S.h) (w' := w') hsub (put_same _ _ _) (put_same _ _ _) (fun i hi => .inr (put_ne _ _ hi)) (Keep.of_ext hE)
  (fun i u hi => by
    have h1 := (b0.one i u hi).1
    rw [look_one, put_ne _ _ (by omega)]
    exact (R.hp.fx i u hi).2) (fun i hi => put_ne _ _ (by omega))
  (fun i u b hi h1 h2 h3 => by
    have h1' : S.h i ≠ none := by rw [look_one, put_ne _ _ hi] at h1; exact h1
    exact Below.block hE b (R.hp.lt ⟨i, u, h1', h2, h3⟩))
  (by
    rcases hB with ⟨h1, h2⟩ | ⟨b, cap, cs, h1, h2, h3, h4, h5⟩
    ·exact .inl ⟨hrow, h1, h2⟩
    ·refine .inr (.inl ⟨b, cap, cs, h1, h3, h4, fun k hk j hj => ?_⟩)
     obtain ⟨u, e1, e2⟩ := h5 k hk j hj
     exact ⟨u, e1, isP_rep (hpc k hk j hj) e2⟩)
  (fun b hb => by
    refine ⟨.inl (Nat.le_trans R.ext.size (hb' b hb)), .inr (hb' b hb), fun i u hi h1 h2 h3 => ?_⟩
    have h1' : S.h i ≠ none := by rw [look_one, put_ne _ _ hi] at h1; exact h1
    have := R.hp.lt ⟨i, u, h1', h2, h3⟩
    have := hb' b hb
    omega)
 exact ⟨put σ id (some rv), R.step (e := ⟨r id, [(id, some B)], [id]⟩) hd hsub (Keep.of_ext hE) H hO (fun _ => hx _ _ _ _ (put_same _ _ _)) (fun i hi => by
  by_cases e : i = id
  ·exact .inr (by simp [e])
  ·rw [put_ne _ _ e] at hi; exact .inl hi)⟩
def OwRes2 (tab : List (TypeId × TD)) (S : St) (rs : List ResultVar) (l1 l2 : List CV) (pv : Value) (B : AB) : Prop :=
 ∃ c t bid sz bt F id d e0, rs = [.cell c t, .tmp e0] ∧ S.t e0 = some (.c (.p pv)) ∧ S.t c = some (.c (.pt bid sz 0 0)) ∧ S.h bid = some ⟨false, 1, sz, bt, F⟩ ∧ assoc tab t = some d ∧ isAg d.k = true ∧ d.size = sz ∧ cellsFrom (F 0) 0 d.size = l1 ++ .ow id :: l2 ∧ S.h id = some B ∧ B.row = true ∧
   (∀ k, k < B.n → ∀ j, j < B.sz → immC (B.F k j) = true)
def RetOw2 (tab : List (TypeId × TD)) (rs : List ResultVar) (l1 l2 : List CV) (pv : Value) (B : AB) : Exit → St → Prop
 | .ret, S => ∃ S', Wk S S' ∧ OwRes2 tab S' rs l1 l2 pv B
 | .normal, S => ∃ S', Wk S S' ∧ OwRes2 tab S' rs l1 l2 pv B
 | _, _ => False
/-- A struct with a row of its own, and a plain value. -/
theorem otcalls2_at {tab : List (TypeId × TD)} (T : tabOk P tab = true) {f : FuncId} {fn : Func} {c : Code} {rs : List ResultVar} {args : List V1} {l1 l2 : List CV} {pv : Value} {B : AB} {n : Nat} (hf : P.funcs[f]? = some fn) (hb : fn.body = some c) (hr : fn.results = rs.toArray) (hn : fn.ntmps = n) (hl : Nat.ble args.length n = true)
 (hi : (l1.all isP && l2.all isP) = true) (h : AWp P c (RetOw2 tab rs l1 l2 pv B) (entry n args)) : OTCalls P f args (fun id => .tu [.ag (l1 ++ .ow id :: l2), .c (.p pv)]) B := fun O w vals hO hv => by
 subst hn
 rw [Bool.and_eq_true] at hi
 let b0 : Base := ⟨w, O, fun _ => False, fun _ => none, hO, fun b hb => hb.elim, fun b _ h => h, fun i v h => (by cases h), fun _ _ => False, fun _ _ _ => True, none, fun _ _ h => h.elim, fun _ _ _ _ _ _ _ _ => trivial⟩
 have hl' := hv.length
 have hO' : ∀ b, out b0 (fun _ => none) (assoc []) b → O b := fun b hb => hb.elim (fun ⟨i, v, h1, _⟩ => absurd rfl h1) fun h => h
 refine calls_of_awp (b0 := b0) hf hb rfl h ⟨fun _ => none, trivial, ?_, ⟨rfl, rfl, rfl, Nat.le_refl _, fun _ _ _ => rfl⟩, ⟨fun id B hB => (by cases hB), fun i j v1 v2 b hi => absurd rfl hi, fun b ⟨i, v, hi, _⟩ => absurd rfl hi, fun i v hi => (by cases hi), fun _ _ _ => rfl⟩, fun t x hx => ?_, fun id hid => ⟨rfl, Nat.blt_eq.mp hid⟩, fun i v hi => (by cases hi), rfl, trivial⟩ (fun e S hQ => by cases e <;> first | exact .inl rfl | exact .inr rfl | exact hQ.elim) fun e a w' S0 hR0 hQ0 hd0 => ?_
 ·have := Nat.ble_eq.mp hl
  simp [entryL, hl']; omega
 ·obtain ⟨y, e1, rfl⟩ : ∃ y, args[t]? = some y ∧ y.av = x := by simpa [entryL, Option.map_eq_some_iff] using hx
  obtain ⟨v, e2, e3⟩ := hv.get e1
  have ht : (vals.toArray ++ Array.replicate (fn.ntmps - vals.toArray.size) undef).getD t undef = v := by
   have hlt := (List.getElem?_eq_some_iff.1 e2).1
   have := (List.getElem?_eq_some_iff.1 e2).2
   simp [Array.getD_eq_getD_getElem?, Array.getElem?_append, hlt, this]
  rw [ht]
  exact (e3.keep ⟨rfl, rfl, rfl, Nat.le_refl _, fun _ _ _ => rfl⟩ (fun b hb => .inl (hO' b hb)) fun _ _ h => h).av
 ·have fin : ∀ S, Rel b0 S a w' → (∃ S', Wk S S' ∧ OwRes2 tab S' rs l1 l2 pv B) → ∃ v, (results fn a.tmps).run P w' = .ok v w' ∧ ∃ v' rv, Ending.returned v = .returned v' ∧ OFresh w.heap.size O w' rv B ∧ (∀ (σ : Nat → Option Value) (O' : Nat → Prop) (w'' : World) (id : Nat), σ id = some rv → RepA σ O' w'' (.tu [.ag (l1 ++ .ow id :: l2), .c (.p pv)]) v') ∧ Ext w w' := fun S hR ⟨S', hw, c', t, bid, sz, bt, F, id, d, e0, hrs, he0, hc, hh, ht, hk, hz, hcl, hid, hrow, him⟩ => by
   obtain ⟨σ, R⟩ := hw b0 a w' hR
   obtain ⟨b, cap, cs, -, e1, -, e2, -, -, e3⟩ := at_pt R (R.sl c' _ hc) hh rfl (by simp : 0 < 1)
   obtain ⟨ud, g1, g2⟩ := ty_ag T ht hk
   obtain ⟨inf, z, u', i1, i2, i3, -⟩ := ty_info T ht
   simp only at e3
   have hcell : ∀ i, i < d.size → w'.cell? (Addr.add ⟨b, 0 * sz + 0, none⟩ i) = some (cs.getD (0 * sz + (0 + i)) undef) ∧ RepC σ (out b0 σ S'.h) w' (F 0 (0 + i)) (cs.getD (0 * sz + (0 + i)) undef) := fun i hi => by
    obtain ⟨u, f1, f2⟩ := e3 0 (by simp) (0 + i) (by omega)
    rw [add_off, Nat.add_assoc, Array.getD_eq_getD_getElem?, f1]
    exact ⟨(cell_of_row w' b _ cs bt (0, 0) e2).trans f1, f2⟩
   have hrl := rep_cells (R := RepC σ (out b0 σ S'.h) w') (F := F 0) (j := 0) fun i hi => (hcell i hi).2
   rw [hcl] at hrl
   have hsub : ∀ b, O b → out b0 σ S'.h b := fun b hb => .inr hb
   obtain ⟨rv, k1, k2⟩ := R.hp.blk id B hid
   have hs0 := R.sl e0 _ he0
   have hs1 : a.tmps.getD e0 undef = pv := hs0.2
   have hs2 : pv.oneCell' = true := hs1 ▸ hs0.1
   refine ⟨.tuple #[.agg ((List.range d.size).map fun i => cs.getD (0 * sz + (0 + i)) undef).toArray, pv], ?_, _, rv, rfl, ⟨hrow, ?_⟩, fun σ' O' w'' id' hs => ⟨[_, _], rfl, ⟨_, rfl, swap_p k1 hs hi.1 hi.2 hrl⟩, ⟨hs2, rfl⟩, trivial⟩, ?_⟩
   ·have := run_agg (P := P) g1 g2 i1 (w := w') (a := ⟨b, 0 * sz + 0, none⟩) (f := fun i => cs.getD (0 * sz + (0 + i)) undef) (fun i hi => (hcell i (by omega)).1)
    rw [i2] at this
    have hres : (resV (.cell c' t) a.tmps).run P w' = .ok (.agg ((List.range d.size).map fun i => cs.getD (0 * sz + (0 + i)) undef).toArray) w' := by
     simp only [resV, e1, asAddr, Sem.run_bind, Sem.run_pure, Result.andThen_ok, this]
    have hres2 : (resV (.tmp e0) a.tmps).run P w' = .ok pv w' := by simp only [resV, hs1, Sem.run_pure]
    rw [results_eq, hr, hrs]
    generalize hf : (fun rv => resV rv a.tmps) = f
    have hfr : resV (.cell c' t) a.tmps = f (.cell c' t) := by rw [← hf]
    have hfr2 : resV (.tmp e0) a.tmps = f (.tmp e0) := by rw [← hf]
    rw [hfr] at hres
    rw [hfr2] at hres2
    simp [hres, hres2]
   ·rcases k2.row hrow with ⟨_, m1, m2⟩ | ⟨b', cap', cs', m1, m2, m3, m4⟩
    ·exact .inl ⟨m1, m2⟩
    ·refine .inr ⟨b', cap', cs', m1, ?_, m2, m3, fun k hk j hj => ?_⟩
     ·rcases R.hp.new b' ⟨id, rv, by rw [hid]; simp, k1, m1.blk⟩ with h | h
      ·exact h
      ·exact h.elim
     ·obtain ⟨u, n1, n2⟩ := m4 k hk j hj
      exact ⟨u, n1, repC_imm (him k hk j hj) n2.1 ((repI_imm (him k hk j hj) n2).less hsub)⟩
   ·exact ⟨R.ext.os, R.ext.tape, R.ext.output, R.ext.size, fun k hk => R.ext.block k hk fun h => h.elim (fun h => h) fun h => h⟩
  cases e with
  | ret => exact fin S0 hR0 hQ0
  | normal => exact fin S0 hR0 hQ0
  | _ => exact hQ0.elim

section ops
variable {ops : Array Oper} {rest : List Oper} {acc : List (List Nat × List Nat)} {S : St} {Q : List (List Nat × List Nat) → St → Prop} {ty : TypeId} {pos : String} {after : Array Edge} {guard : Option (Nat × Bool)}
/-- A call whose result's slice becomes the caller's own. -/
theorem AList.callT {f : FuncId} {fn : Func} {id : Nat} {xs : Array Operand} {ats : Array TypeId} {args : List V1} {r : Nat → AV} {B : AB} (hw : S.wants ops { dst := some id, op := .call { callee := .value (.func f), args := xs, argTypes := ats }, type := ty, pos, after, guard } = some true) (hd : dOk S.n (some id) = true) (hfr : S.fr id = true)
 (ha : S.opds xs.toList = some args) (hi : args.all immV = true) (hf : P.funcs[f]? = some fn) (hb : fn.body.isNone = false) (hnm : (fn.name == "runtime.NumGoroutine") = false) (hc : OTCalls P f args r B) (hpc : ∀ k, k < B.n → ∀ j, j < B.sz → isP (B.F k j) = true)
 (hn : AList P ops rest (([id], [id, id]) :: acc) (S.eff (some id) ⟨r id, [(id, some B)], [id]⟩) Q) : AList P ops ({ dst := some id, op := .call { callee := .value (.func f), args := xs, argTypes := ats }, type := ty, pos, after, guard } :: rest) acc S Q :=
 AList.cons [] ⟨r id, [(id, some B)], [id]⟩ (LStep.of hw fun S1 hA _ hal b0 σ a w R => by
  have h2 : S1.opds xs.toList = some args := (opds_congr fun x hx => hA.op x (by simp only [Op.operands, Call.operands]; simp; exact .inr (by simpa using hx))).trans ha
  have hv := opds_rep R h2
  have := hc (out b0 σ S1.h) w (xs.toList.map a.eval) (fun b hb => own_lt R hb) (RepL.of_get hv.length fun i x v h1 h2 => by
   obtain ⟨v', e1, e2⟩ := hv.get h1
   rw [h2] at e1
   cases e1
   exact strip0 (List.all_eq_true.1 hi _ (List.mem_of_getElem? h1)) e2)
  rw [run_callf f fn hf hb hnm #[] #[] rfl w]
  simp only [Goes]
  rw [show (#[] ++ xs.map a.eval ++ #[] : Array Value) = (xs.toList.map a.eval).toArray from Array.ext' (by simp)]
  exact this.mono fun e w' ⟨v, rv, g1, g2, g3, g4⟩ => ⟨v, g1, R.adoptR (by rw [hA.n]; exact hd) ((hal id (by simp)).trans hfr) g4 g2 g3 hpc⟩) hn
end ops
end
end Go.AV
end

section
namespace Go.Proofs.Ytjjaehpkccejaaa
open Go.RowKit Go.Flow
open Go.Proofs
attribute [local go_sem] block_add
attribute [local go_sem ↓] Go.wp_at_zero Go.wp_at_succ

theorem side_any (n : Int) (w : World) :
 Calls Try.prog 60 #[.int .i64 n] w fun e w' => e = .returned (.bool (sideB n)) ∧ w = w' := by
 go_enter Try.func60, Try.ntmps60
 go_wp2
 all_goals go_ret
 all_goals exact ⟨ret_bool (by unfold sideB; simp; omega), rfl⟩

theorem Check_any (W H : Int) (A : Option Addr) (n c : Nat) (w : World) :
 Calls Try.prog 44 #[bmp W H A n c] w fun e w' => e = .returned (.int .i64 (chk W H n)) ∧ Ext w w' := by
 have hfin : Ext w (w.alloc (.cells #[.int .i64 W, .int .i64 H, .slice A n c] 47)) := (Ext.refl w).alloc _
 replace hfin := Lib.hid hfin
 cases hW : sideB W
 ·have hr : chk W H n = 13 := by simp [chk, hW]
  replace hr := Lib.hid hr
  go_enter Try.func44, Try.ntmps44
  go_wp2_with (first | (go_at_call 60; refine (side_any _ _).mono ?_; rintro e w' ⟨rfl, rfl⟩))
  go_ret
  exact ⟨ret_int hr.out.symm, hfin.out⟩
 cases hH : sideB H
 ·have hr : chk W H n = 13 := by simp [chk, hH]
  replace hr := Lib.hid hr
  go_enter Try.func44, Try.ntmps44
  go_wp2_with (first | (go_at_call 60; refine (side_any _ _).mono ?_; rintro e w' ⟨rfl, rfl⟩))
  go_ret
  exact ⟨ret_int hr.out.symm, hfin.out⟩
 have hb := area_bd (sideB_iff.1 hW) (sideB_iff.1 hH)
 have hr : chk W H n = if (n : Int) = W * H then 0 else 5 := by simp [chk, hH, hW]
 replace hr := Lib.hid hr
 go_enter Try.func44, Try.ntmps44
 go_wp2_with (first | (go_at_call 60; refine (side_any _ _).mono ?_; rintro e w' ⟨rfl, rfl⟩))
 all_goals go_ret
 all_goals refine ⟨?_, hfin.out⟩
 all_goals rw [hr.out]
 all_goals simp_all

theorem Mod_any (n m : Int) (hm : 0 < m) (hM : m ≤ 1000000) (w : World) :
 Calls Try.prog 18 #[.int .i64 n, .int .i64 m] w fun e w' => e = .returned (.int .i64 (n % m)) ∧ w = w' := by
 have h1 : -m < n.tmod m := by have := Int.lt_tmod_of_pos n hm; omega
 have h2 : n.tmod m < m := Int.tmod_lt_of_pos n hm
 have h3 : (n.tmod m + m) % m = n % m := by
  rw [Int.add_emod_right, Int.emod_def, Int.emod_def]
  have e1 := Int.mul_tdiv_add_tmod n m
  have e2 : n.tmod m = n - m * n.tdiv m := by omega
  rw [e2, show n - m * n.tdiv m = n + m * (- n.tdiv m) by rw [Int.mul_neg]; omega, Int.add_mul_ediv_left _ _ (by omega), Int.mul_add]
  omega
 replace h3 := Lib.hid h3
 go_enter Try.func18, Try.ntmps18
 go_wp2
 all_goals go_ret
 all_goals exact ⟨ret_int (by rw [← h3.out]; try simp), rfl⟩

end Go.Proofs.Ytjjaehpkccejaaa
end

section
namespace Go.Proofs.Ytjjaehpkccejaaa
open Go.RowKit Go.Flow
open Go.Proofs
attribute [local go_sem] block_add
attribute [local go_sem ↓] Go.wp_at_zero Go.wp_at_succ

theorem info_bool : (Try.prog.info? 4).map (fun i => (i.zero, i.size, i.bytes)) = some (some (.bool false), 1, 1) := by kernel_rfl
/-- What New returns. -/
def NewPost (W H : Int) (w : World) (e : Ending) (w' : World) : Prop :=
 ∃ g n, e = .returned (.tuple #[bmp W H (some ⟨g, 0, none⟩) n n, .int .i64 0]) ∧ (n : Int) = W * H ∧ Flow.Own w' g 4 n (fun _ => .bool false) ∧ w.heap.size ≤ g ∧ Ext w w'

theorem New_ok (W H : Int) (w : World) (hb : (sideB W && sideB H) = true) :
 Calls Try.prog 34 #[.int .i64 W, .int .i64 H] w (NewPost W H w) := by
 obtain ⟨i0, hi, hz0, hz1, hz2⟩ := info_parts info_bool
 simp only [Bool.and_eq_true] at hb
 obtain ⟨hW, hH⟩ := hb
 have hbd := area_bd (sideB_iff.1 hW) (sideB_iff.1 hH)
 obtain ⟨n, hn⟩ : ∃ n : Nat, W * H = n := ⟨(W * H).toNat, by omega⟩
 have hn' := Lib.hid hn
 clear hn
 go_enter Try.func34, Try.ntmps34
 go_wp2_with (first
  | (go_at_call 60; refine (side_any _ _).mono ?_; rintro e w' ⟨rfl, rfl⟩)
  | (at_make; refine wpList_make rfl (.tmp 19) (.tmp 19) 45 rfl 4 i0 (.bool false) Try.underlying45 hi hz0 hz1 rfl _ _ _ _ n rfl rfl hn'.out hn'.out (by rw [hz2]; have := hn'.out; omega) (by have := hn'.out; omega) ?_))
 intro w1 hO hE
 obtain ⟨hBc, hBf, hBl⟩ := ((Blk.new w 47 #[.int .i64 0, .int .i64 0, .slice none 0 0]).ext hE).rules
 go_wp2
 refine bodyPost_ret (v := .tuple #[bmp W H (some ⟨w.heap.size + 1, 0, none⟩) n n, .int .i64 0]) (by simp [results, Try.results34, go_sem, *]) rfl
  ⟨w.heap.size + 1, n, rfl, hn'.out.symm, ((hO.far ?_ _).far ?_ _).far ?_ _, by omega, ((((Ext.refl w).alloc _).trans hE).setCell ?_ _ |>.setCell ?_ _ |>.setCell ?_ _)⟩ <;> simp
end Go.Proofs.Ytjjaehpkccejaaa
end

section
namespace Go.Flow
open Go Go.RowKit
section
variable {w w' : World} {base n : Nat} {A : Option Addr} {t : TypeId} {F : Nat → Value}
theorem Mine.of_own {g : Nat} (h : Flow.Own w g t n F) (hg : base ≤ g) : Mine w base (some ⟨g, 0, none⟩) t n F := fun _ =>
 let ⟨cs, hb, _, hc⟩ := h
 ⟨g, rfl, hg, cs, hb, hc⟩
theorem Mine.set_ {p : Addr} (h : Mine w base A t n F) (hp : p.block < base) (u : Value) : Mine (w.setCell p u) base A t n F := fun hn =>
 let ⟨g, e, hg, cs, hb, hc⟩ := h hn
 ⟨g, e, hg, cs, hb.far (by omega) u, hc⟩
end
end Go.Flow
namespace Go.Proofs.Ytjjaehpkccejaaa
open Go.RowKit Go.Flow
open Go.Proofs
attribute [local go_sem] block_add
attribute [local go_sem ↓] Go.wp_at_zero Go.wp_at_succ

end Go.Proofs.Ytjjaehpkccejaaa
end

section
namespace Go.AV
open Go Go.RowKit Go.Flow
section
variable {P : Program}
variable {σ : Nat → Option Value} {O : Nat → Prop} {w : World} {u : Value} {n : Nat}
theorem mine_rep {base : Nat} {A : Option Addr} {t : TypeId} {c : Nat} {F : Nat → Nat → CV} {G : Nat → Value} (hF : ∀ k, F k 0 = .p (G k)) (h1 : ∀ k, k < n → (G k).oneCell' = true) (hb : ∀ b, O b → b < base) (hc : n ≤ c) (h : Mine w base A t n G) : RepC σ O w (.ls n 1 F) (.slice A n c) := by
 refine ⟨rfl, A, c, rfl, hc, fun k hk j hj => ?_⟩
 obtain ⟨g, rfl, hg, cs, hB, hx⟩ := h (by omega)
 obtain rfl : j = 0 := by omega
 refine ⟨⟨g, 0, none⟩, G k, rfl, fun ho => by have := hb _ ho; simp at this; omega, ?_, h1 k hk, by rw [hF]; rfl⟩
 rw [add_off]
 simpa using (hB.cell k).trans (hx k hk)
end
end Go.AV
namespace Go.Proofs.Ytjjaehpkccejaaa
open Go.RowKit Go.Flow Go.AV
theorem args3 {R : V1 → Value → Prop} {a b c : V1} {vals : List Value} (h : RepL R [a, b, c] vals) : ∃ x y z, vals = [x, y, z] ∧ R a x ∧ R b y ∧ R c z := by
 match vals, h with
 | [x, y, z], ⟨h1, h2, h3, _⟩ => exact ⟨x, y, z, rfl, h1, h2, h3⟩
theorem args5 {R : V1 → Value → Prop} {a b c d e : V1} {vals : List Value} (h : RepL R [a, b, c, d, e] vals) : ∃ x y z t s, vals = [x, y, z, t, s] ∧ R a x ∧ R b y ∧ R c z ∧ R d t ∧ R e s := by
 match vals, h with
 | [x, y, z, t, s], ⟨h1, h2, h3, h4, h5, _⟩ => exact ⟨x, y, z, t, s, rfl, h1, h2, h3, h4, h5⟩
end Go.Proofs.Ytjjaehpkccejaaa
end

section
namespace Go.Proofs.Ytjjaehpkccejaaa
open Go.RowKit Go.Flow Go.AV
theorem Mod_A (n m : Int) (hm : 0 < m) (hM : m ≤ 1000000) : ACalls Try.prog 18 [.c (iC n), .c (iC m)] (.c (iC (n % m))) :=
 ACalls.old rfl fun O w vals h => by
  obtain ⟨x, y, rfl, h1, h2⟩ := args2 h
  cases rep_c h1
  cases rep_c h2
  exact (Mod_any n m hm hM w).mono fun e w' ⟨a, b⟩ => ⟨a, b ▸ Ext.refl w⟩
abbrev drawB (N : Nat) (f : Nat → Int) (a : Nat) : AB := ⟨false, 1, 2, 80, lF [.ls N 1 (iF f), iC a]⟩
set_option maxRecDepth 100000 in
theorem Next_A (N : Nat) (f : Nat → Int) (a : Nat) (m : Int) (ha : a ≤ N) (hN : N ≤ 4611686018427387904) (hm : 0 < m) (hM : m ≤ 1000000) :
 HCalls Try.prog 32 [.c (.pt 1000 2 0 0), .c (iC m)] [(1000, drawB N f a)] (.c (iC (dval N f a m))) [(1000, drawB N f (dat N a))] := by
 by_cases hlt : a < N
 ·have e1 : dval N f a m = f a % m := if_pos hlt
  have e2 : dat N a = a + 1 := if_pos hlt
  rw [e1, e2]
  refine hcalls_at Try.func32 rfl rfl Try.ntmps32 rfl rfl (fun p hp => by cases hp with | head => exact fun k j _ _ => lF_imm rfl k j | tail _ h => cases h) ?_
  repeat (first
   | refine AWp.seq ?_
   | refine thenA_n ?_
   | refine AWp.skip ?_
   | refine AWp.ret ?_
   | refine AWp.condF rfl cnF ?_
   | (refine rG 0 ?_
      refine kC ?_
      refine aB ?_)
   | (refine AWp.draw (id := 1) mixed ?_; refine kA ?_; refine AList.nilPt rfl rfl rfl rfl ?_; refine kD ?_; refine kE ?_; refine kA ?_; refine AList.nilPt rfl rfl rfl rfl ?_; refine kD ?_; refine kE ?_; refine qr5 (aO tyOk) ?_; refine qr5f aJ ?_; refine aB ⟨by kernel_rfl, ?_⟩)
   | (refine rG 3 ?_
      refine kA ?_
      refine AList.nilPt rfl rfl rfl rfl ?_
      refine kD ?_
      refine kE ?_
      refine qr4w2 aL ?_
      refine AList.nilPt rfl rfl rfl rfl ?_
      refine kD ?_
      refine kI ?_
      refine aB ?_)
   | (refine AWp.draw (id := 4) mixed ?_; refine kA ?_; refine AList.nilPt rfl rfl rfl rfl ?_; refine kD ?_; refine kE ?_; refine kA ?_; refine AList.nilPt rfl rfl rfl rfl ?_; refine kD ?_; refine kE ?_; refine qr4w2 AList.sub ?_; refine qr8eo2 (aP (k := a) tyOk) ?_; refine qr5o (aV tyOk) ?_; refine kA ?_; refine aH rfl rfl rfl rfl Try.func18 rfl (by kernel_rfl) (Mod_A (f a) m hm hM) ?_; refine kC ?_; refine aB ⟨by kernel_rfl, ?_⟩))
  refine ⟨mkL 35 1 [(4, .c (iC (f a % m)))] [(1000, drawB N f (a + 1))] [], [], Wk.mkL [] rfl rfl rfl rfl rfl ?_ ?_, rfl, rfl, ARets.one (x := .c _) (ARes.tmp rfl rfl)⟩
  ·exact allT
  ·exact allH
 ·have e1 : dval N f a m = 0 := if_neg hlt
  have e2 : dat N a = a := if_neg hlt
  rw [e1, e2]
  refine hcalls_at Try.func32 rfl rfl Try.ntmps32 rfl rfl (fun p hp => by cases hp with | head => exact fun k j _ _ => lF_imm rfl k j | tail _ h => cases h) ?_
  repeat (first
   | refine AWp.seq ?_
   | refine thenA_n ?_
   | refine AWp.ret ?_
   | refine thenA_r ?_
   | refine AWp.condT rfl cnT ?_
   | (refine rG 0 ?_
      refine kC ?_
      refine aB ?_)
   | (refine AWp.draw (id := 1) mixed ?_; refine kA ?_; refine AList.nilPt rfl rfl rfl rfl ?_; refine kD ?_; refine kE ?_; refine kA ?_; refine AList.nilPt rfl rfl rfl rfl ?_; refine kD ?_; refine kE ?_; refine qr5 (aO tyOk) ?_; refine qr5t aK ?_; refine aB ⟨by kernel_rfl, ?_⟩)
   | (refine rG 2 ?_
      refine kC ?_
      refine aB ?_))
  refine ⟨mkL 35 1 [(4, .c (iC 0))] [(1000, drawB N f a)] [], [], Wk.mkL [] rfl rfl rfl rfl rfl ?_ ?_, rfl, rfl, ARets.one (x := .c _) (ARes.tmp rfl rfl)⟩
  ·exact allT
  ·exact allH
end Go.Proofs.Ytjjaehpkccejaaa
end

section
namespace Go.Proofs.Ytjjaehpkccejaaa
open Go.RowKit Go.Flow
open Go.Proofs
attribute [local go_sem] block_add
attribute [local go_sem ↓] Go.wp_at_zero Go.wp_at_succ

/-- Get of a good bitmap. -/
theorem Get_any (W H : Int) (A : Option Addr) (n c : Nat) (dot : Nat → Bool) (x y : Int) (w : World) (hok : chk W H n = 0) (hA : Bools w A n dot) :
 Calls Try.prog 61 #[bmp W H A n c, .int .i64 x, .int .i64 y] w fun e w' => e = .returned (.bool (hasB W H dot x y)) ∧ Ext w w' := by
 have hE := Lib.hid ((Ext.refl w).alloc (.cells #[.int .i64 W, .int .i64 H, .slice A n c] 47))
 have hB := Lib.hid (Blk.new w 47 #[.int .i64 W, .int .i64 H, .slice A n c])
 have hk := okB hok
 have hne : (chk W H n == 0) = true := by simpa using hok
 replace hok := Lib.hid hok
 by_cases h1 : 0 ≤ x
 ·by_cases h2 : x < W
  ·by_cases h3 : 0 ≤ y
   ·by_cases h4 : y < H
    ·have hp0 : 0 ≤ y * W := Int.mul_nonneg h3 (by omega)
     have hp1 : y * W + W ≤ W * H := by
      have : (y + 1) * W ≤ H * W := Int.mul_le_mul_of_nonneg_right (by omega) (by omega)
      rw [Int.add_mul, Int.mul_comm H W] at this
      omega
     have hbd := area_bd ⟨hk.1, hk.2.1⟩ ⟨hk.2.2.1, hk.2.2.2.1⟩
     obtain ⟨hk1, hk2, hk3, hk4, hk5⟩ := hk
     have hlt : y * W + x < n := by omega
     have hub : n ≤ 9216 := by omega
     have e0 : hasB W H dot x y = dot (y * W + x).toNat := hasB_in h1 h2 h3 h4
     rw [e0]
     clear hk5 hbd hp1 e0
     obtain ⟨m, hm⟩ : ∃ m : Nat, y * W + x = m := ⟨(y * W + x).toNat, by omega⟩
     have hmn : m < n := by omega
     have hw1 : IntKind.i64.wrap (y * W) = y * W := by rw [IntKind.wrap_i64]; omega
     have hw2 : IntKind.i64.wrap (y * W + x) = m := by rw [IntKind.wrap_i64]; omega
     have hmn' : (m : Int) < n := by omega
     have e1 : (y * W + x).toNat = m := by omega
     rw [e1]
     have hA1 := Lib.hid (hA.ext hE.out)
     clear e1 hlt
     obtain ⟨v, hv⟩ : ∃ v, dot m = v := ⟨_, rfl⟩
     rw [hv]
     go_enter Try.func61, Try.ntmps61
     go_wp2_with fail
     refine (Check_any W H A n c _).mono ?_
     rintro e w1 ⟨rfl, hE1⟩
     obtain ⟨bc, bf, bl⟩ := (hB.out.ext hE1).rules
     obtain ⟨ad, rfl, hc⟩ := hA1.out.ext hE1 m hmn
     have hal := lt_of_cell hc
     simp only [hv] at hc
     replace hv := Lib.hid hv
     replace hE1 := Lib.hid (hE.out.trans hE1)
     go_wp2_with fail
     go_ret
     exact ⟨rfl, hE1.out⟩
    ·have e0 : hasB W H dot x y = false := by unfold hasB; rw [if_neg (by omega)]
     rw [e0]
     clear e0 hk
     go_enter Try.func61, Try.ntmps61
     go_wp2_with fail
     refine (Check_any W H A n c _).mono ?_
     rintro e w1 ⟨rfl, hE1⟩
     obtain ⟨bc, bf, bl⟩ := (hB.out.ext hE1).rules
     replace hE1 := Lib.hid (hE.out.trans hE1)
     go_wp2_with fail
     go_ret
     exact ⟨rfl, hE1.out⟩
   ·have e0 : hasB W H dot x y = false := by unfold hasB; rw [if_neg (by omega)]
    rw [e0]
    clear e0 hk
    go_enter Try.func61, Try.ntmps61
    go_wp2_with fail
    refine (Check_any W H A n c _).mono ?_
    rintro e w1 ⟨rfl, hE1⟩
    obtain ⟨bc, bf, bl⟩ := (hB.out.ext hE1).rules
    replace hE1 := Lib.hid (hE.out.trans hE1)
    go_wp2_with fail
    go_ret
    exact ⟨rfl, hE1.out⟩
  ·have e0 : hasB W H dot x y = false := by unfold hasB; rw [if_neg (by omega)]
   rw [e0]
   clear e0 hk
   go_enter Try.func61, Try.ntmps61
   go_wp2_with fail
   refine (Check_any W H A n c _).mono ?_
   rintro e w1 ⟨rfl, hE1⟩
   obtain ⟨bc, bf, bl⟩ := (hB.out.ext hE1).rules
   replace hE1 := Lib.hid (hE.out.trans hE1)
   go_wp2_with fail
   go_ret
   exact ⟨rfl, hE1.out⟩
 ·have e0 : hasB W H dot x y = false := by unfold hasB; rw [if_neg (by omega)]
  rw [e0]
  clear e0 hk
  go_enter Try.func61, Try.ntmps61
  go_wp2_with fail
  refine (Check_any W H A n c _).mono ?_
  rintro e w1 ⟨rfl, hE1⟩
  obtain ⟨bc, bf, bl⟩ := (hB.out.ext hE1).rules
  replace hE1 := Lib.hid (hE.out.trans hE1)
  go_wp2_with fail
  go_ret
  exact ⟨rfl, hE1.out⟩


end Go.Proofs.Ytjjaehpkccejaaa
end
