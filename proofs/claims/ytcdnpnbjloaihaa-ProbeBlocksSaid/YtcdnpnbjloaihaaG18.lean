/- Parts of the proof: Tree. -/
import Derived.Test.YtcdnpnbjloaihaaG17
set_option linter.unusedSimpArgs false
set_option linter.unusedVariables false
section
/- A region that draws its order, walked along a tree: behind some operations two may come up, neither of which yields one value, and so on. No condition. -/
namespace Go.Flow
open Go Go.RowKit

/-- fin s: along s. two s i ti j tj: along s, then either i, then ti, or j, then tj. -/
inductive Tr where
  | fin (s : List (Nat × Bool))
  | two (s : List (Nat × Bool)) (i : Nat) (ti : Tr) (j : Nat) (tj : Tr)
def Tr.seq : Tr → List (Nat × Bool)
  | .fin s => s
  | .two s _ _ _ _ => s
def Tr.len : Tr → Nat
  | .fin s => s.length
  | .two s _ ti _ _ => s.length + (1 + ti.len)
def okT (ops : Array Oper) (n : Nat) : Tr → Array Bool → Bool
  | .fin s, listed => okSeq ops n s listed
  | .two s i ti j tj, listed => match okPre ops n s listed with
    | none => false
    | some l' => decide (i < n) && decide (j < n) && decide (Region.ready .any ops l' = [i, j]) && okT ops n ti (l'.setIfInBounds i true) && okT ops n tj (l'.setIfInBounds j true) && decide (ti.len = tj.len)
def okTree (ops : Array Oper) (n : Nat) (t : Tr) : Bool :=
  Region.noSelect ops && decide (n ≤ ops.size) && (decide (n = ops.size) || (Region.sinkB .any ops n && Region.chainB .any ops n)) && decide (t.len = n) && okT ops n t (Array.replicate ops.size false)

section
variable {P : Program}
def sq (l : List Oper) (s : List (Nat × Bool)) : List (Oper × Bool) := s.map fun x => (l.getD x.1 default, x.2)
/-- What is asked behind the tree's first operations. -/
def cont (P : Program) (l : List Oper) (Qn : Act → World → Prop) : Tr → Act → World → Prop
  | .fin _ => Qn
  | .two _ i ti j tj => fun a w => WalkL P l.toArray (cont P l Qn ti) (sq l ((i, false) :: ti.seq)) a w ∧ WalkL P l.toArray (cont P l Qn tj) (sq l ((j, false) :: tj.seq)) a w
def WalkT (P : Program) (l : List Oper) (Qn : Act → World → Prop) (t : Tr) (a : Act) (w : World) : Prop := WalkL P l.toArray (cont P l Qn t) (sq l t.seq) a w

theorem anyE_T {l : List Oper} {n : Nat} {Lq : Act → World → Prop} (hsel : Region.noSelect l.toArray = true)
    (htail : ∀ listed, HeadInv .any l.toArray n listed → ∀ i, i < n → listed.getD i true = false → ∀ t, n ≤ t → t ∉ Region.ready .any l.toArray listed) :
    ∀ (t : Tr) (listed : Array Bool) (a : Act) (w : World), HeadInv .any l.toArray n listed → okT l.toArray n t listed = true → WalkT P l Lq t a w →
      AnyE P .any l.toArray n (fun listed' a' w' => Region.seqB .any l.toArray (l.toArray.size - n) n listed' = true ∧ Lq a' w') t.len listed a w
  | .fin s, listed, a, w, inv, hB, h => anyE_walk hsel htail s listed a w inv hB (WalkL.toE s listed a w hB h)
  | .two s i ti j tj, listed, a, w, inv, hB, h => by
    unfold okT at hB
    cases hp : okPre l.toArray n s listed with
    | none => rw [hp] at hB; cases hB
    | some l' =>
      rw [hp] at hB
      simp only [Bool.and_eq_true, decide_eq_true_eq] at hB
      obtain ⟨⟨⟨⟨⟨hi, hj⟩, hrd⟩, hs1⟩, hs2⟩, hlen⟩ := hB
      have hE := okPre_mem s _ hp _ _ h
      have get : ∀ (k : Nat) (t : Tr), (∀ (a : Act) (w : World), HeadInv .any l.toArray n (l'.setIfInBounds k true) → WalkT P l Lq t a w →
          AnyE P .any l.toArray n (fun listed' a' w' => Region.seqB .any l.toArray (l.toArray.size - n) n listed' = true ∧ Lq a' w') t.len (l'.setIfInBounds k true) a w) →
          k ∈ Region.ready .any l.toArray l' → k < n → HeadInv .any l.toArray n l' → ∀ (a : Act) (w1 : World),
          WalkL P l.toArray (cont P l Lq t) (sq l ((k, false) :: t.seq)) a w1 →
          StE P l.toArray k (AnyE P .any l.toArray n (fun listed' a' w' => Region.seqB .any l.toArray (l.toArray.size - n) n listed' = true ∧ Lq a' w') t.len (l'.setIfInBounds k true)) a w1 := by
        intro k t ih hr hkn inv a w1 hw
        obtain ⟨_, o, ho, _⟩ := mem_ready.1 hr
        have hl : l.getD k default = o := by
          have : l[k]? = some o := by simpa using ho
          simp [List.getD, this]
        simp only [sq, List.map_cons, hl] at hw
        exact ⟨o, ho, (hw w1 (Ext.refl w1)).imp (fun ⟨hwt, hg⟩ => ⟨hwt, hg.mono fun u w' ⟨hx, hk⟩ => ⟨hx, ih _ _ (inv.set hr hkn) hk⟩⟩) (fun ⟨hwt, hk⟩ => ⟨hwt, ih _ _ (inv.set hr hkn) hk⟩)⟩
      refine anyE_pre (f := 1 + ti.len) hsel htail (fun listed' a' w' hL => seqB_ready hL.1) s listed a w inv hp (fun inv a w hb => ?_) hE
      rw [Nat.add_comm]
      intro w1 h1
      refine ⟨by rw [hrd]; simp, fun k hk => ?_⟩
      have hk' := hk
      rw [hrd] at hk
      obtain ⟨hb1, hb2⟩ := hb w1 h1
      rcases List.mem_cons.1 hk with rfl | hk
      · exact ⟨hi, get _ ti (fun a w inv h => anyE_T hsel htail ti _ a w inv hs1 h) hk' hi inv a w1 hb1⟩
      · obtain rfl : k = j := by simpa using hk
        rw [hlen]
        exact ⟨hj, get _ tj (fun a w inv h => anyE_T hsel htail tj _ a w inv hs2 h) hk' hj inv a w1 hb2⟩

theorem cont_and {l : List Oper} {Qn : Act → World → Prop} {s : List (Nat × Bool)} {i j : Nat} {ti tj : Tr} {a : Act} {w : World} (h1 : WalkL P l.toArray (cont P l Qn ti) (sq l ((i, false) :: ti.seq)) a w)
    (h2 : WalkL P l.toArray (cont P l Qn tj) (sq l ((j, false) :: tj.seq)) a w) : cont P l Qn (.two s i ti j tj) a w := ⟨h1, h2⟩
theorem cont_fin {l : List Oper} {Qn : Act → World → Prop} {s : List (Nat × Bool)} {a : Act} {w : World} (h : Qn a w) : cont P l Qn (.fin s) a w := h
theorem WalkL.later {ops : Array Oper} {Qn : Act → World → Prop} {w w' : World} (hE : Ext w w') : ∀ (s : List (Oper × Bool)) (a : Act), WalkL P ops Qn s a w → WalkL P ops Qn s a w'
  | [], _, h => fun w1 h1 => h w1 (hE.trans h1)
  | (_, true) :: s, _, ⟨v, hat, hk⟩ => ⟨v, hat.later hE, WalkL.later hE s _ hk⟩
  | (_, false) :: _, _, h => fun w1 h1 => h w1 (hE.trans h1)

theorem tree_inv {l : List Oper} {n : Nat} : HeadInv .any l.toArray n (Array.replicate l.toArray.size false) :=
  ⟨by simp, fun j oj _ hl => (by rw [getD_replicate_false] at hl; cases hl), fun t _ ht => getD_in (by simpa using ht) (getD_replicate_false _ _)⟩
theorem tree_tail {l : List Oper} {n : Nat} (hs : n = l.toArray.size ∨ Region.sinkB .any l.toArray n = true ∧ Region.chainB .any l.toArray n = true) :
    ∀ listed, HeadInv .any l.toArray n listed → ∀ i, i < n → listed.getD i true = false → ∀ t, n ≤ t → t ∉ Region.ready .any l.toArray listed := by
  intro listed inv i hi hun t ht
  by_cases hsz : n < l.toArray.size
  · rcases hs with hs | hs
    · omega
    · exact tail_waits hs.1 hs.2 hsz inv _ i rfl hi hun t ht
  · intro hr
    obtain ⟨_, o, ho, _⟩ := mem_ready.1 hr
    have := (Array.getElem?_eq_some_iff.1 ho).1
    omega

theorem wp_tree {id : Nat} {Q : Exit → Act → World → Prop} {a : Act} {w : World} {l : List Oper} (n : Nat) (t : Tr) (hm : P.follows .mixedOrders = true) (hB : okTree l.toArray n t = true)
    (h : WalkL P l.toArray (cont P l (fun a' w' => wpList P l.toArray Q (l.drop n) a' w') t) (sq l t.seq) a w) : (Code.region id l.toArray true).wp P Q a w := by
  simp only [okTree, Bool.and_eq_true, Bool.or_eq_true, decide_eq_true_eq] at hB
  obtain ⟨⟨⟨⟨hsel, hn⟩, hs⟩, hlen⟩, hok⟩ := hB
  have hn' : n ≤ l.length := by simpa using hn
  have hdl : (l.drop n).length = l.toArray.size - n := by simp
  have H := anyE_T hsel (tree_tail hs) t _ a w.drew tree_inv hok (WalkL.later (Ext.refl w).drew _ _ h)
  refine wp_region_any hm ?_
  have := wpAny_of_anyE (Q := Q) (g := l.toArray.size - n) (fun listed a' w' hL => by
    have := wpAny_of_seq (md := .any) (Q' := Q) (l.drop n) n listed a' w' (fun j => by simp [List.getElem?_drop]) (by rw [hdl]; exact hL.1) hL.2
    rwa [hdl] at this) _ _ _ _ H
  rw [hlen, show n + (l.toArray.size - n) = l.toArray.size by omega] at this
  exact this
theorem wpIn_tree {F : Fence} {nd : Nat} {id : Nat} {Q : Exit → Act → World → Prop} {a : Act} {w : World} {l : List Oper} (hF : Wide F) (n : Nat) (t : Tr) (hm : P.follows .mixedOrders = true) (hB : (noDefer l.toArray && okTree l.toArray n t) = true)
    (h : WalkL P l.toArray (cont P l (fun a' w' => wpListIn F nd P l.toArray Q (l.drop n) a' w') t) (sq l t.seq) a w) : (Code.region id l.toArray true).wpIn F nd P Q a w := by
  simp only [okTree, Bool.and_eq_true, Bool.or_eq_true, decide_eq_true_eq] at hB
  obtain ⟨hD, ⟨⟨⟨hsel, hn⟩, hs⟩, hlen⟩, hok⟩ := hB
  have hn' : n ≤ l.length := by simpa using hn
  have hdl : (l.drop n).length = l.toArray.size - n := by simp
  have H := anyE_T hsel (tree_tail hs) t _ a w.drew tree_inv hok (WalkL.later (Ext.refl w).drew _ _ h)
  refine wpIn_region_any hm ?_
  have := wpAnyIn_of_anyE (nd := nd) (Q := Q) hF hD (g := l.toArray.size - n) (fun listed a' w' hL => by
    have := wpAnyIn_of_seq (F := F) (nd := nd) (md := .any) (Q' := Q) (l.drop n) n listed a' w' (fun j => by simp [List.getElem?_drop]) (by rw [hdl]; exact hL.1) hL.2
    rwa [hdl] at this) _ _ _ _ H
  rw [hlen, show n + (l.toArray.size - n) = l.toArray.size by omega] at this
  exact this
end
end Go.Flow
end
