/- Parts of the proof: Flow3, Tree. -/
import Derived.Test.YtcdnpnbjloaihaaG01
import Derived.OrdersIn
import Derived.TacticsIn
import Derived.RangeFuncCalls
set_option linter.unusedSimpArgs false
set_option linter.unusedVariables false
section
/- A region that draws its order, inside a fence that shuts nothing out (the wide one, or a round of a range over a function). No condition. -/
namespace Go.Flow
open Go Go.RowKit

/-- A fence that shuts nothing out. -/
structure Wide (F : Fence) : Prop where
  fn : ∀ f, F.fn f
  depth : F.depth = none
  calls : ∀ {n : Nat} {P : Program} {f : FuncId} {args : Array Value} {w : World} {R : Ending → World → Prop}, Calls P f args w R → CallsIn F n P f args w R
theorem Wide.wide : Wide Fence.wide := ⟨fun _ => trivial, rfl, fun h => callsIn_wide.2 h⟩
theorem Wide.inRound (l : Nat) : Wide (Fence.wide.inRound l) := ⟨fun _ => trivial, rfl, fun h => CallsIn.inRound l (callsIn_wide.2 h)⟩

section
variable {F : Fence} {nd : Nat} {P : Program} {ops : Array Oper} {md : Region.Mode}

theorem Goes.uponIn (hF : Wide F) {o : Oper} {a : Act} {K : Act → World → Prop} {K0 : Value → World → Prop} {Q : Exit → Act → World → Prop} {r : Result Next}
    (h : Goes P K0 r) (hK : ∀ v w', K0 v w' → K (a.put o.dst v) w') : o.uponIn F nd P a K Q r := by
  cases r with
  | ok n w' =>
    cases n <;> simp only [Goes, Oper.uponIn] at h ⊢
    case value u => exact hK _ _ h
    case skip => exact hK _ _ h
    case enter f args => exact ⟨fun hd => (by rw [hF.depth] at hd; cases hd), hF.calls (h.mono fun e w'' ⟨v, he, hc⟩ => by subst he; exact hK _ _ hc)⟩
  | halt x w' => simp only [Goes] at h

/-- No operation is a 'defer' statement. -/
def noDefer (ops : Array Oper) : Bool := ops.all fun o => match o.op with | .defer _ => false | _ => true
theorem noDefer_at {i : Nat} {o : Oper} (h : noDefer ops = true) (hi : ops[i]? = some o) : ∀ c, o.op ≠ .defer c := by
  intro c hc
  have hm : o ∈ ops := Array.mem_of_getElem? hi
  unfold noDefer at h
  rw [Array.all_eq_true'] at h
  have := h o hm
  rw [hc] at this
  cases this
theorem semAt_exec {i : Nat} {o : Oper} (h : noDefer ops = true) (hi : ops[i]? = some o) (r : Option Nat) (ρ : Operand → Value) : o.semAt r ρ = execOp ρ o := by
  cases r with
  | none => exact Oper.semAt_none _ _
  | some l => exact Oper.semAt_some l _ _ (noDefer_at h hi)

theorem StE.wpOpIn (hF : Wide F) (hD : noDefer ops = true) {i : Nat} {a : Act} {w : World} {K K' : Act → World → Prop} {Q : Exit → Act → World → Prop}
    (h : StE P ops i K a w) (hK : ∀ a' w', Ext w w' → K a' w' → K' a' w') : wpOpIn F nd P ops Q i K' a w := by
  obtain ⟨o, hi, h⟩ := h
  unfold Go.wpOpIn
  simp only [hi]
  rcases h with ⟨hw, h⟩ | ⟨hw, h⟩
  · rw [if_pos hw]
    refine ⟨fun f _ => hF.fn f, ?_⟩
    rw [semAt_exec hD hi]
    exact h.uponIn hF fun v w' ⟨h1, h2⟩ => hK _ _ h1 h2
  · rw [if_neg (by simp [hw])]
    exact ⟨fun f _ => hF.fn f, hK _ _ (Ext.refl w) h⟩

theorem wpAnyIn_of_anyE (hF : Wide F) (hD : noDefer ops = true) {n g : Nat} {L : Array Bool → Act → World → Prop} {Q : Exit → Act → World → Prop} (hL : ∀ listed a w, L listed a w → wpAnyIn F nd P md ops Q g listed a w) :
    ∀ (f : Nat) (listed : Array Bool) (a : Act) (w : World), AnyE P md ops n L f listed a w → wpAnyIn F nd P md ops Q (f + g) listed a w
  | 0, listed, a, w, h => by rw [Nat.zero_add]; exact hL _ _ _ (h w (Ext.refl w))
  | f + 1, listed, a, w, h => by
    rw [show f + 1 + g = (f + g) + 1 by omega]
    have h := h w (Ext.refl w)
    exact ⟨fun h0 => absurd h0 h.1, fun i hi => (h.2 i hi).2.wpOpIn hF hD fun a' w' _ hk => wpAnyIn_of_anyE hF hD hL f _ a' w' hk⟩

theorem wpAnyIn_of_seq {Q' : Exit → Act → World → Prop} : ∀ (l : List Oper) (k : Nat) (listed : Array Bool) (a : Act) (w : World), (∀ j, l[j]? = ops[k + j]?) →
    Region.seqB md ops l.length k listed = true → wpListIn F nd P ops Q' l a w → wpAnyIn F nd P md ops Q' l.length listed a w
  | [], _, _, _, _, _, hB, h => ⟨by simpa [Region.seqB] using hB, h⟩
  | o :: l, k, listed, a, w, hl, hB, h => by
    have h0 : ops[k]? = some o := by simpa using (hl 0).symm
    simp only [List.length_cons, Region.seqB, Bool.and_eq_true, decide_eq_true_eq] at hB
    refine ⟨fun h1 => (by rw [hB.1] at h1; cases h1), fun i hi => ?_⟩
    rw [hB.1] at hi
    have hik : i = k := by simpa using hi
    subst hik
    have hw : wpOpIn F nd P ops Q' i (wpListIn F nd P ops Q' l) a w := by unfold wpOpIn; simp only [h0]; exact h
    exact wpOpIn_mono (fun a' w' h' => wpAnyIn_of_seq l (i + 1) _ a' w' (fun j => by have := hl (j + 1); simpa [Nat.add_assoc, Nat.add_comm 1 j] using this) hB.2 h') hw

theorem wpIn_flow {id : Nat} {Q : Exit → Act → World → Prop} {a : Act} {w : World} {l : List Oper} (hF : Wide F) (n : Nat) (s : List (Nat × Bool)) (hm : P.follows .mixedOrders = true)
    (hB : (noDefer l.toArray && okFlow l.toArray n s) = true)
    (h : WalkL P l.toArray (fun a' w' => wpListIn F nd P l.toArray Q (l.drop n) a' w') (s.map fun x => (l.getD x.1 default, x.2)) a w) : (Code.region id l.toArray true).wpIn F nd P Q a w := by
  simp only [okFlow, Bool.and_eq_true, Bool.or_eq_true, decide_eq_true_eq] at hB
  obtain ⟨hD, ⟨⟨⟨hsel, hn⟩, hs⟩, hlen⟩, hseq⟩ := hB
  have hn' : n ≤ l.length := by simpa using hn
  have hdl : (l.drop n).length = l.toArray.size - n := by simp
  have inv0 : HeadInv .any l.toArray n (Array.replicate l.toArray.size false) :=
    ⟨by simp, fun j oj _ hl => (by rw [getD_replicate_false] at hl; cases hl), fun t _ ht => getD_in (by simpa using ht) (getD_replicate_false _ _)⟩
  have htail : ∀ listed, HeadInv .any l.toArray n listed → ∀ i, i < n → listed.getD i true = false → ∀ t, n ≤ t → t ∉ Region.ready .any l.toArray listed := by
    intro listed inv i hi hun t ht
    by_cases hsz : n < l.toArray.size
    · rcases hs with hs | hs
      · omega
      · exact tail_waits hs.1 hs.2 hsz inv _ i rfl hi hun t ht
    · intro hr
      obtain ⟨_, o, ho, _⟩ := mem_ready.1 hr
      have := (Array.getElem?_eq_some_iff.1 ho).1
      omega
  replace h := WalkL.toE (l := l) s _ a w hseq h
  have hdrew : WalkE P l.toArray (fun a' w' => wpListIn F nd P l.toArray Q (l.drop n) a' w') s a w.drew := by
    have hE : Ext w w.drew := (Ext.refl w).drew
    have go : ∀ (s : List (Nat × Bool)) (a : Act), WalkE P l.toArray (fun a' w' => wpListIn F nd P l.toArray Q (l.drop n) a' w') s a w → WalkE P l.toArray (fun a' w' => wpListIn F nd P l.toArray Q (l.drop n) a' w') s a w.drew := by
      intro s
      induction s with
      | nil => exact fun a h w1 h1 => h w1 (hE.trans h1)
      | cons x s ih =>
        obtain ⟨k, b⟩ := x
        cases b with
        | true => exact fun a ⟨o, v, ho, hat, hk⟩ => ⟨o, v, ho, hat.later hE, ih _ hk⟩
        | false => exact fun a h w1 h1 => h w1 (hE.trans h1)
    exact go s a h
  have H := anyE_walk hsel htail s _ a w.drew inv0 hseq hdrew
  refine wpIn_region_any hm ?_
  have := wpAnyIn_of_anyE (nd := nd) (Q := Q) hF hD (g := l.toArray.size - n) (fun listed a' w' hL => by
    have := wpAnyIn_of_seq (F := F) (nd := nd) (md := .any) (Q' := Q) (l.drop n) n listed a' w' (fun j => by simp [List.getElem?_drop]) (by rw [hdl]; exact hL.1) hL.2
    rwa [hdl] at this) _ _ _ _ H
  rw [hlen, show n + (l.toArray.size - n) = l.toArray.size by omega] at this
  exact this
end
end Go.Flow
end

section
/- A region that draws its order, walked along a tree: behind some operations two may come up, neither of which yields one value, and so on. No condition. -/
namespace Go.Flow
open Go Go.RowKit

/-- fin s: along s. two s i ti j tj: along s, then either i, then ti, or j, then tj. -/
inductive Tr where
  | fin (s : List (Nat × Bool))
  | two (s : List (Nat × Bool)) (i : Nat) (ti : Tr) (j : Nat) (tj : Tr)
def Tr.seq : Tr → List (Nat × Bool)
  | .fin s => s
  | .two s _ _ _ _ => s
def Tr.len : Tr → Nat
  | .fin s => s.length
  | .two s _ ti _ _ => s.length + (1 + ti.len)
def okT (ops : Array Oper) (n : Nat) : Tr → Array Bool → Bool
  | .fin s, listed => okSeq ops n s listed
  | .two s i ti j tj, listed => match okPre ops n s listed with
    | none => false
    | some l' => decide (i < n) && decide (j < n) && decide (Region.ready .any ops l' = [i, j]) && okT ops n ti (l'.setIfInBounds i true) && okT ops n tj (l'.setIfInBounds j true) && decide (ti.len = tj.len)
def okTree (ops : Array Oper) (n : Nat) (t : Tr) : Bool :=
  Region.noSelect ops && decide (n ≤ ops.size) && (decide (n = ops.size) || (Region.sinkB .any ops n && Region.chainB .any ops n)) && decide (t.len = n) && okT ops n t (Array.replicate ops.size false)

section
variable {P : Program}
def sq (l : List Oper) (s : List (Nat × Bool)) : List (Oper × Bool) := s.map fun x => (l.getD x.1 default, x.2)
/-- What is asked behind the tree's first operations. -/
def cont (P : Program) (l : List Oper) (Qn : Act → World → Prop) : Tr → Act → World → Prop
  | .fin _ => Qn
  | .two _ i ti j tj => fun a w => WalkL P l.toArray (cont P l Qn ti) (sq l ((i, false) :: ti.seq)) a w ∧ WalkL P l.toArray (cont P l Qn tj) (sq l ((j, false) :: tj.seq)) a w
def WalkT (P : Program) (l : List Oper) (Qn : Act → World → Prop) (t : Tr) (a : Act) (w : World) : Prop := WalkL P l.toArray (cont P l Qn t) (sq l t.seq) a w

theorem anyE_T {l : List Oper} {n : Nat} {Lq : Act → World → Prop} (hsel : Region.noSelect l.toArray = true)
    (htail : ∀ listed, HeadInv .any l.toArray n listed → ∀ i, i < n → listed.getD i true = false → ∀ t, n ≤ t → t ∉ Region.ready .any l.toArray listed) :
    ∀ (t : Tr) (listed : Array Bool) (a : Act) (w : World), HeadInv .any l.toArray n listed → okT l.toArray n t listed = true → WalkT P l Lq t a w →
      AnyE P .any l.toArray n (fun listed' a' w' => Region.seqB .any l.toArray (l.toArray.size - n) n listed' = true ∧ Lq a' w') t.len listed a w
  | .fin s, listed, a, w, inv, hB, h => anyE_walk hsel htail s listed a w inv hB (WalkL.toE s listed a w hB h)
  | .two s i ti j tj, listed, a, w, inv, hB, h => by
    unfold okT at hB
    cases hp : okPre l.toArray n s listed with
    | none => rw [hp] at hB; cases hB
    | some l' =>
      rw [hp] at hB
      simp only [Bool.and_eq_true, decide_eq_true_eq] at hB
      obtain ⟨⟨⟨⟨⟨hi, hj⟩, hrd⟩, hs1⟩, hs2⟩, hlen⟩ := hB
      have hE := okPre_mem s _ hp _ _ h
      have get : ∀ (k : Nat) (t : Tr), (∀ (a : Act) (w : World), HeadInv .any l.toArray n (l'.setIfInBounds k true) → WalkT P l Lq t a w →
          AnyE P .any l.toArray n (fun listed' a' w' => Region.seqB .any l.toArray (l.toArray.size - n) n listed' = true ∧ Lq a' w') t.len (l'.setIfInBounds k true) a w) →
          k ∈ Region.ready .any l.toArray l' → k < n → HeadInv .any l.toArray n l' → ∀ (a : Act) (w1 : World),
          WalkL P l.toArray (cont P l Lq t) (sq l ((k, false) :: t.seq)) a w1 →
          StE P l.toArray k (AnyE P .any l.toArray n (fun listed' a' w' => Region.seqB .any l.toArray (l.toArray.size - n) n listed' = true ∧ Lq a' w') t.len (l'.setIfInBounds k true)) a w1 := by
        intro k t ih hr hkn inv a w1 hw
        obtain ⟨_, o, ho, _⟩ := mem_ready.1 hr
        have hl : l.getD k default = o := by
          have : l[k]? = some o := by simpa using ho
          simp [List.getD, this]
        simp only [sq, List.map_cons, hl] at hw
        exact ⟨o, ho, (hw w1 (Ext.refl w1)).imp (fun ⟨hwt, hg⟩ => ⟨hwt, hg.mono fun u w' ⟨hx, hk⟩ => ⟨hx, ih _ _ (inv.set hr hkn) hk⟩⟩) (fun ⟨hwt, hk⟩ => ⟨hwt, ih _ _ (inv.set hr hkn) hk⟩)⟩
      refine anyE_pre (f := 1 + ti.len) hsel htail (fun listed' a' w' hL => seqB_ready hL.1) s listed a w inv hp (fun inv a w hb => ?_) hE
      rw [Nat.add_comm]
      intro w1 h1
      refine ⟨by rw [hrd]; simp, fun k hk => ?_⟩
      have hk' := hk
      rw [hrd] at hk
      obtain ⟨hb1, hb2⟩ := hb w1 h1
      rcases List.mem_cons.1 hk with rfl | hk
      · exact ⟨hi, get _ ti (fun a w inv h => anyE_T hsel htail ti _ a w inv hs1 h) hk' hi inv a w1 hb1⟩
      · obtain rfl : k = j := by simpa using hk
        rw [hlen]
        exact ⟨hj, get _ tj (fun a w inv h => anyE_T hsel htail tj _ a w inv hs2 h) hk' hj inv a w1 hb2⟩

theorem cont_and {l : List Oper} {Qn : Act → World → Prop} {s : List (Nat × Bool)} {i j : Nat} {ti tj : Tr} {a : Act} {w : World} (h1 : WalkL P l.toArray (cont P l Qn ti) (sq l ((i, false) :: ti.seq)) a w)
    (h2 : WalkL P l.toArray (cont P l Qn tj) (sq l ((j, false) :: tj.seq)) a w) : cont P l Qn (.two s i ti j tj) a w := ⟨h1, h2⟩
theorem cont_fin {l : List Oper} {Qn : Act → World → Prop} {s : List (Nat × Bool)} {a : Act} {w : World} (h : Qn a w) : cont P l Qn (.fin s) a w := h
theorem WalkL.later {ops : Array Oper} {Qn : Act → World → Prop} {w w' : World} (hE : Ext w w') : ∀ (s : List (Oper × Bool)) (a : Act), WalkL P ops Qn s a w → WalkL P ops Qn s a w'
  | [], _, h => fun w1 h1 => h w1 (hE.trans h1)
  | (_, true) :: s, _, ⟨v, hat, hk⟩ => ⟨v, hat.later hE, WalkL.later hE s _ hk⟩
  | (_, false) :: _, _, h => fun w1 h1 => h w1 (hE.trans h1)

theorem tree_inv {l : List Oper} {n : Nat} : HeadInv .any l.toArray n (Array.replicate l.toArray.size false) :=
  ⟨by simp, fun j oj _ hl => (by rw [getD_replicate_false] at hl; cases hl), fun t _ ht => getD_in (by simpa using ht) (getD_replicate_false _ _)⟩
theorem tree_tail {l : List Oper} {n : Nat} (hs : n = l.toArray.size ∨ Region.sinkB .any l.toArray n = true ∧ Region.chainB .any l.toArray n = true) :
    ∀ listed, HeadInv .any l.toArray n listed → ∀ i, i < n → listed.getD i true = false → ∀ t, n ≤ t → t ∉ Region.ready .any l.toArray listed := by
  intro listed inv i hi hun t ht
  by_cases hsz : n < l.toArray.size
  · rcases hs with hs | hs
    · omega
    · exact tail_waits hs.1 hs.2 hsz inv _ i rfl hi hun t ht
  · intro hr
    obtain ⟨_, o, ho, _⟩ := mem_ready.1 hr
    have := (Array.getElem?_eq_some_iff.1 ho).1
    omega

theorem wp_tree {id : Nat} {Q : Exit → Act → World → Prop} {a : Act} {w : World} {l : List Oper} (n : Nat) (t : Tr) (hm : P.follows .mixedOrders = true) (hB : okTree l.toArray n t = true)
    (h : WalkL P l.toArray (cont P l (fun a' w' => wpList P l.toArray Q (l.drop n) a' w') t) (sq l t.seq) a w) : (Code.region id l.toArray true).wp P Q a w := by
  simp only [okTree, Bool.and_eq_true, Bool.or_eq_true, decide_eq_true_eq] at hB
  obtain ⟨⟨⟨⟨hsel, hn⟩, hs⟩, hlen⟩, hok⟩ := hB
  have hn' : n ≤ l.length := by simpa using hn
  have hdl : (l.drop n).length = l.toArray.size - n := by simp
  have H := anyE_T hsel (tree_tail hs) t _ a w.drew tree_inv hok (WalkL.later (Ext.refl w).drew _ _ h)
  refine wp_region_any hm ?_
  have := wpAny_of_anyE (Q := Q) (g := l.toArray.size - n) (fun listed a' w' hL => by
    have := wpAny_of_seq (md := .any) (Q' := Q) (l.drop n) n listed a' w' (fun j => by simp [List.getElem?_drop]) (by rw [hdl]; exact hL.1) hL.2
    rwa [hdl] at this) _ _ _ _ H
  rw [hlen, show n + (l.toArray.size - n) = l.toArray.size by omega] at this
  exact this
theorem wpIn_tree {F : Fence} {nd : Nat} {id : Nat} {Q : Exit → Act → World → Prop} {a : Act} {w : World} {l : List Oper} (hF : Wide F) (n : Nat) (t : Tr) (hm : P.follows .mixedOrders = true) (hB : (noDefer l.toArray && okTree l.toArray n t) = true)
    (h : WalkL P l.toArray (cont P l (fun a' w' => wpListIn F nd P l.toArray Q (l.drop n) a' w') t) (sq l t.seq) a w) : (Code.region id l.toArray true).wpIn F nd P Q a w := by
  simp only [okTree, Bool.and_eq_true, Bool.or_eq_true, decide_eq_true_eq] at hB
  obtain ⟨hD, ⟨⟨⟨hsel, hn⟩, hs⟩, hlen⟩, hok⟩ := hB
  have hn' : n ≤ l.length := by simpa using hn
  have hdl : (l.drop n).length = l.toArray.size - n := by simp
  have H := anyE_T hsel (tree_tail hs) t _ a w.drew tree_inv hok (WalkL.later (Ext.refl w).drew _ _ h)
  refine wpIn_region_any hm ?_
  have := wpAnyIn_of_anyE (nd := nd) (Q := Q) hF hD (g := l.toArray.size - n) (fun listed a' w' hL => by
    have := wpAnyIn_of_seq (F := F) (nd := nd) (md := .any) (Q' := Q) (l.drop n) n listed a' w' (fun j => by simp [List.getElem?_drop]) (by rw [hdl]; exact hL.1) hL.2
    rwa [hdl] at this) _ _ _ _ H
  rw [hlen, show n + (l.toArray.size - n) = l.toArray.size by omega] at this
  exact this
end
end Go.Flow
end
