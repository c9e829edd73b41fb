/- Parts of the proof: Flow3, BmDots, BmCount, BdColLaw. -/
import Derived.Test.YtfgcogkhnnflcaaDoorG01
import Derived.OrdersIn
import Derived.TacticsIn
import Derived.RangeFuncCalls
import Derived.Test.YtfgcogkhnnflcaaDoorHBdColCard01
import Derived.StillTail
import Derived.Below
import Derived.Deep.Draws
import Derived.WalkKit
import Derived.KernelRfl
import Derived.Test.YtfgcogkhnnflcaaDoorProg
import Derived.Test.YtfgcogkhnnflcaaDoorHBdColCard05
import Derived.RangeFuncNested
import Derived.RangeFuncBound
import Derived.RangeFuncLeaves
import Derived.Shelf.Abstract
import Derived.Shelf.RegionOpen
import Derived.OwnWalkIn
import Derived.TacticsInMore
import Derived.LoopNIn
import Derived.LoopIn
import Derived.Test.YtfgcogkhnnflcaaDoorG02
import Derived.Test.YtfgcogkhnnflcaaDoorHBdColCard02
import Derived.Lib.Hide
import Derived.Deep.QuietTactic
import Derived.BigQuiet
import Derived.Deep.DrawnRows
import Derived.Test.YtfgcogkhnnflcaaDoorG04
import Derived.Maps.AppendAt
import Derived.OwnWalk
import Derived.Test.YtfgcogkhnnflcaaDoorG06
import Derived.Test.YtfgcogkhnnflcaaDoorHBdColCard03
import Derived.Test.YtfgcogkhnnflcaaDoorHBdColCard04
import Derived.Test.YtfgcogkhnnflcaaDoorG05
import Derived.Deep.DeepCutAuto
import Derived.Test.YtfgcogkhnnflcaaDoorG03
import Derived.Deep.AppendLies
import Derived.Laws.EntriesVeiled
set_option linter.unusedSimpArgs false
set_option linter.unusedVariables false
section
namespace Go.Flow
open Go Go.RowKit

/-- A fence that shuts nothing out. -/
structure Wide (F : Fence) : Prop where
  fn : ∀ f, F.fn f
  depth : F.depth = none
  calls : ∀ {n : Nat} {P : Program} {f : FuncId} {args : Array Value} {w : World} {R : Ending → World → Prop}, Calls P f args w R → CallsIn F n P f args w R
theorem Wide.wide : Wide Fence.wide := ⟨fun _ => trivial, rfl, fun h => callsIn_wide.2 h⟩
theorem Wide.inRound (l : Nat) : Wide (Fence.wide.inRound l) := ⟨fun _ => trivial, rfl, fun h => CallsIn.inRound l (callsIn_wide.2 h)⟩

section
variable {F : Fence} {nd : Nat} {P : Program} {ops : Array Oper} {md : Region.Mode}

theorem Goes.uponIn (hF : Wide F) {o : Oper} {a : Act} {K : Act → World → Prop} {K0 : Value → World → Prop} {Q : Exit → Act → World → Prop} {r : Result Next}
    (h : Goes P K0 r) (hK : ∀ v w', K0 v w' → K (a.put o.dst v) w') : o.uponIn F nd P a K Q r := by
  cases r with
  | ok n w' =>
    cases n <;> simp only [Goes, Oper.uponIn] at h ⊢
    case value u => exact hK _ _ h
    case skip => exact hK _ _ h
    case enter f args => exact ⟨fun hd => (by rw [hF.depth] at hd; cases hd), hF.calls (h.mono fun e w'' ⟨v, he, hc⟩ => by subst he; exact hK _ _ hc)⟩
  | halt x w' => simp only [Goes] at h

/-- No operation is a 'defer' statement. -/
def noDefer (ops : Array Oper) : Bool := ops.all fun o => match o.op with | .defer _ => false | _ => true
theorem noDefer_at {i : Nat} {o : Oper} (h : noDefer ops = true) (hi : ops[i]? = some o) : ∀ c, o.op ≠ .defer c := by
  intro c hc
  have hm : o ∈ ops := Array.mem_of_getElem? hi
  unfold noDefer at h
  rw [Array.all_eq_true'] at h
  have := h o hm
  rw [hc] at this
  cases this
theorem semAt_exec {i : Nat} {o : Oper} (h : noDefer ops = true) (hi : ops[i]? = some o) (r : Option Nat) (ρ : Operand → Value) : o.semAt r ρ = execOp ρ o := by
  cases r with
  | none => exact Oper.semAt_none _ _
  | some l => exact Oper.semAt_some l _ _ (noDefer_at h hi)

theorem StE.wpOpIn (hF : Wide F) (hD : noDefer ops = true) {i : Nat} {a : Act} {w : World} {K K' : Act → World → Prop} {Q : Exit → Act → World → Prop}
    (h : StE P ops i K a w) (hK : ∀ a' w', Ext w w' → K a' w' → K' a' w') : wpOpIn F nd P ops Q i K' a w := by
  obtain ⟨o, hi, h⟩ := h
  unfold Go.wpOpIn
  simp only [hi]
  rcases h with ⟨hw, h⟩ | ⟨hw, h⟩
  · rw [if_pos hw]
    refine ⟨fun f _ => hF.fn f, ?_⟩
    rw [semAt_exec hD hi]
    exact h.uponIn hF fun v w' ⟨h1, h2⟩ => hK _ _ h1 h2
  · rw [if_neg (by simp [hw])]
    exact ⟨fun f _ => hF.fn f, hK _ _ (Ext.refl w) h⟩

theorem wpAnyIn_of_anyE (hF : Wide F) (hD : noDefer ops = true) {n g : Nat} {L : Array Bool → Act → World → Prop} {Q : Exit → Act → World → Prop} (hL : ∀ listed a w, L listed a w → wpAnyIn F nd P md ops Q g listed a w) :
    ∀ (f : Nat) (listed : Array Bool) (a : Act) (w : World), AnyE P md ops n L f listed a w → wpAnyIn F nd P md ops Q (f + g) listed a w
  | 0, listed, a, w, h => by rw [Nat.zero_add]; exact hL _ _ _ (h w (Ext.refl w))
  | f + 1, listed, a, w, h => by
    rw [show f + 1 + g = (f + g) + 1 by omega]
    have h := h w (Ext.refl w)
    exact ⟨fun h0 => absurd h0 h.1, fun i hi => (h.2 i hi).2.wpOpIn hF hD fun a' w' _ hk => wpAnyIn_of_anyE hF hD hL f _ a' w' hk⟩

theorem wpAnyIn_of_seq {Q' : Exit → Act → World → Prop} : ∀ (l : List Oper) (k : Nat) (listed : Array Bool) (a : Act) (w : World), (∀ j, l[j]? = ops[k + j]?) →
    Region.seqB md ops l.length k listed = true → wpListIn F nd P ops Q' l a w → wpAnyIn F nd P md ops Q' l.length listed a w
  | [], _, _, _, _, _, hB, h => ⟨by simpa [Region.seqB] using hB, h⟩
  | o :: l, k, listed, a, w, hl, hB, h => by
    have h0 : ops[k]? = some o := by simpa using (hl 0).symm
    simp only [List.length_cons, Region.seqB, Bool.and_eq_true, decide_eq_true_eq] at hB
    refine ⟨fun h1 => (by rw [hB.1] at h1; cases h1), fun i hi => ?_⟩
    rw [hB.1] at hi
    have hik : i = k := by simpa using hi
    subst hik
    have hw : wpOpIn F nd P ops Q' i (wpListIn F nd P ops Q' l) a w := by unfold wpOpIn; simp only [h0]; exact h
    exact wpOpIn_mono (fun a' w' h' => wpAnyIn_of_seq l (i + 1) _ a' w' (fun j => by have := hl (j + 1); simpa [Nat.add_assoc, Nat.add_comm 1 j] using this) hB.2 h') hw

theorem wpIn_flow {id : Nat} {Q : Exit → Act → World → Prop} {a : Act} {w : World} {l : List Oper} (hF : Wide F) (n : Nat) (s : List (Nat × Bool)) (hm : P.follows .mixedOrders = true)
    (hB : (noDefer l.toArray && okFlow l.toArray n s) = true)
    (h : WalkL P l.toArray (fun a' w' => wpListIn F nd P l.toArray Q (l.drop n) a' w') (s.map fun x => (l.getD x.1 default, x.2)) a w) : (Code.region id l.toArray true).wpIn F nd P Q a w := by
  simp only [okFlow, Bool.and_eq_true, Bool.or_eq_true, decide_eq_true_eq] at hB
  obtain ⟨hD, ⟨⟨⟨hsel, hn⟩, hs⟩, hlen⟩, hseq⟩ := hB
  have hn' : n ≤ l.length := by simpa using hn
  have hdl : (l.drop n).length = l.toArray.size - n := by simp
  have inv0 : HeadInv .any l.toArray n (Array.replicate l.toArray.size false) :=
    ⟨by simp, fun j oj _ hl => (by rw [getD_replicate_false] at hl; cases hl), fun t _ ht => getD_in (by simpa using ht) (getD_replicate_false _ _)⟩
  have htail : ∀ listed, HeadInv .any l.toArray n listed → ∀ i, i < n → listed.getD i true = false → ∀ t, n ≤ t → t ∉ Region.ready .any l.toArray listed := by
    intro listed inv i hi hun t ht
    by_cases hsz : n < l.toArray.size
    · rcases hs with hs | hs
      · omega
      · exact tail_waits hs.1 hs.2 hsz inv _ i rfl hi hun t ht
    · intro hr
      obtain ⟨_, o, ho, _⟩ := mem_ready.1 hr
      have := (Array.getElem?_eq_some_iff.1 ho).1
      omega
  replace h := WalkL.toE (l := l) s _ a w hseq h
  have hdrew : WalkE P l.toArray (fun a' w' => wpListIn F nd P l.toArray Q (l.drop n) a' w') s a w.drew := by
    have hE : Ext w w.drew := (Ext.refl w).drew
    have go : ∀ (s : List (Nat × Bool)) (a : Act), WalkE P l.toArray (fun a' w' => wpListIn F nd P l.toArray Q (l.drop n) a' w') s a w → WalkE P l.toArray (fun a' w' => wpListIn F nd P l.toArray Q (l.drop n) a' w') s a w.drew := by
      intro s
      induction s with
      | nil => exact fun a h w1 h1 => h w1 (hE.trans h1)
      | cons x s ih =>
        obtain ⟨k, b⟩ := x
        cases b with
        | true => exact fun a ⟨o, v, ho, hat, hk⟩ => ⟨o, v, ho, hat.later hE, ih _ hk⟩
        | false => exact fun a h w1 h1 => h w1 (hE.trans h1)
    exact go s a h
  have H := anyE_walk hsel htail s _ a w.drew inv0 hseq hdrew
  refine wpIn_region_any hm ?_
  have := wpAnyIn_of_anyE (nd := nd) (Q := Q) hF hD (g := l.toArray.size - n) (fun listed a' w' hL => by
    have := wpAnyIn_of_seq (F := F) (nd := nd) (md := .any) (Q' := Q) (l.drop n) n listed a' w' (fun j => by simp [List.getElem?_drop]) (by rw [hdl]; exact hL.1) hL.2
    rwa [hdl] at this) _ _ _ _ H
  rw [hlen, show n + (l.toArray.size - n) = l.toArray.size by omega] at this
  exact this
end
end Go.Flow
end

section
namespace Go.Proofs.YtfgcogkhnnflcaaDoor
open Go.RowKit Go.Shelf Go.Flow Go.Plain
open Go.Proofs
attribute [local go_sem] block_add
attribute [local go_sem] Oper.semAt_some

/-- The dots that have come when j cells are over. -/
def upto (m : Nat) (dot : Nat → Bool) : (j : Nat) → j ≤ m → List (Fin m)
  | 0, _ => []
  | j + 1, h => upto m dot j (Nat.le_of_succ_le h) ++ (if dot j then [⟨j, h⟩] else [])
theorem upto_len {m : Nat} {dot : Nat → Bool} : ∀ (j : Nat) (h : j ≤ m), (upto m dot j h).length ≤ j
  | 0, _ => Nat.le_refl _
  | j + 1, h => by
    have := upto_len (dot := dot) j (Nat.le_of_succ_le h)
    unfold upto
    rw [List.length_append]
    split <;> simp <;> omega
theorem upto_succ {m : Nat} {dot : Nat → Bool} (j : Nat) (h : j + 1 ≤ m) : upto m dot (j + 1) h = upto m dot j (Nat.le_of_succ_le h) ++ (if dot j then [⟨j, h⟩] else []) := rfl
theorem upto_cnt {m : Nat} {dot p : Nat → Bool} : ∀ (j : Nat) (h : j ≤ m), (((upto m dot j h).filter fun x => p x.val).length : Int) = cnt (fun k => dot k && p k) j
  | 0, _ => rfl
  | j + 1, h => by
    have := upto_cnt (dot := dot) (p := p) j (Nat.le_of_succ_le h)
    rw [upto_succ, List.filter_append, List.length_append, cnt_succ, ← this]
    cases hd : dot j <;> cases hp : p j <;> simp [hp]

/-- A dot by value. -/
abbrev dotV (Wn k : Nat) : Value := .agg #[.int .i64 ((k : Int) % Wn), .int .i64 ((k : Int) / Wn)]

/-- What a round must keep: whatever lay below n₀, and block Bn. -/
def Keep2 (n₀ Bn : Nat) (W W' : World) : Prop := Below n₀ W W' ∧ (Bn < W.heap.size → W'.heap[Bn]? = W.heap[Bn]?)
theorem Keep2.trans {n₀ Bn : Nat} {A B C : World} (h : Keep2 n₀ Bn A B) (k : Keep2 n₀ Bn B C) : Keep2 n₀ Bn A C :=
  ⟨h.1.trans k.1, fun hb => (k.2 (Nat.lt_of_lt_of_le hb h.1.size)).trans (h.2 hb)⟩
theorem Keep2.of_ext {n₀ Bn : Nat} {A B : World} (h : Ext A B) (hn : n₀ ≤ A.heap.size) : Keep2 n₀ Bn A B := ⟨Below.mono h hn, fun hb => Below.block h Bn hb⟩
theorem Keep2.put {n₀ Bn : Nat} {w : World} (hn : n₀ ≤ w.heap.size) (hb : Bn < w.heap.size) (W : World) (l : Nat) (o o' : Obj) (hl : w.heap.size ≤ l) (h : W.heap[l]? = some o) (h1 : o.isCells = false) (h2 : o.isWalk = false) : Keep2 n₀ Bn W (W.putObj l o') :=
  ⟨belowK_b hn W l o o' hl h h1 h2, fun _ => World.putObj_heap_other (by omega)⟩
theorem Keep2.set_ {n₀ Bn : Nat} {W : World} {p : Addr} (hp : n₀ ≤ p.block) (hb : Bn ≠ p.block) (v : Value) : Keep2 n₀ Bn W (W.setCell p v) :=
  ⟨(Below.refl n₀ W).setCell hp v, fun _ => Below.heap_setCell W p v Bn hb⟩

set_option maxRecDepth 100000 in
set_option maxHeartbeats 2000000 in
theorem dots1_in (nd : Nat) (hn : 1 ≤ nd) (l Bn : Nat) (Wn Hn : Nat) (A : Option Addr) (m c : Nat) (dot : Nat → Bool) (hok : chk Wn Hn m = 0) (w0 w : World) (hn0 : w0.heap.size ≤ w.heap.size) (J Jx : List (Fin m) → World → Prop)
    (hY : ∀ pre (x : Fin m) W, J pre W → pre.length < m → YieldAt Fence.wide (nd - 1) Tryd.prog l #[dotV Wn x.val] W fun e W' =>
      (e = .returned (.bool true) ∧ J (pre ++ [x]) W' ∧ Keep2 w0.heap.size Bn W W') ∨ (e = .returned (.bool false) ∧ Jx (pre ++ [x]) W'))
    (hJ : ∀ pre W W', J pre W → Ext W W' → J pre W')
    (hB : Blk w Bn 30 #[.int .i64 Wn, .int .i64 Hn, .slice A m c]) (hA : Bools w0 A m dot) (h0w : Below w0.heap.size w0 w) (W : World) (hb : Keep2 w0.heap.size Bn w W) (h0 : J [] W) :
    CallsIn Fence.wide nd Tryd.prog 60 #[.func (.yield l) #[] #[], .pointer (some ⟨Bn, 0, none⟩)] W fun e W' => (∃ v, e = .returned v) ∧
      ((∃ ys, ys = upto m dot m (Nat.le_refl _) ∧ J ys W') ∨ (∃ pre, (∃ k h, pre = upto m dot k h) ∧ Jx pre W')) := by
  have e1 : (chk Wn Hn m != 0) = false := by simp [hok]
  have hkw := okB hok
  have hm1 : m ≤ 9216 := by have := area_bd ⟨hkw.1, hkw.2.1⟩ ⟨hkw.2.2.1, hkw.2.2.2.1⟩; have := hkw.2.2.2.2; omega
  have hkm := hkw.2.2.2.2
  obtain ⟨-, hw2, -, -, -⟩ := hkw
  replace hok := Lib.hid hok
  replace hkm := Lib.hid hkm
  have hR : ∀ V, Keep2 w0.heap.size Bn w V → (∀ i, V.cell? ⟨Bn, i, none⟩ = #[.int .i64 Wn, .int .i64 Hn, .slice A m c][i]?) ∧ Bn < V.heap.size := fun V hV =>
    have hBV : Blk V Bn 30 #[.int .i64 Wn, .int .i64 Hn, .slice A m c] := (hV.2 hB.lt).trans hB
    ⟨hBV.cell, hBV.lt⟩
  replace hR := Lib.hid hR
  have hbl := hB.lt
  obtain ⟨hBc, hBl⟩ := hR.out W hb
  refine callsIn_of_wp Tryd.func60 rfl trivial ?_ rfl
  simp only [Tryd.ntmps60, List.size_toArray, List.length_cons, List.length_nil, Nat.reduceAdd, Nat.reduceSub, Array.replicate_succ, Array.replicate_zero, List.push_toArray, List.append_toArray, List.nil_append, List.cons_append]
  gi_wp2
  refine ⟨trivial, callsIn_wide.2 ((Check2_any Wn Hn A m c W).mono ?_)⟩
  rintro e w1 ⟨rfl, hE1⟩
  replace h0 := hJ _ _ _ h0 hE1
  have hb1 := hb.trans (Keep2.of_ext hE1 (Nat.le_trans hn0 hb.1.size))
  clear hBc hBl
  obtain ⟨hBc, hBl⟩ := hR.out w1 hb1
  gi_wp2
  gi_loopw [11] (fun i wr => ∃ (k : Nat) (h : k ≤ m), i = .int .i64 k ∧ J (upto m dot k h) wr ∧ Keep2 w0.heap.size Bn w wr) (fun i _ => m - (intOf i).toNat)
  case atStart => exact ⟨0, Nat.zero_le _, rfl, h0, hb1⟩
  case round =>
    clear hBc hBl h0 hb1 hE1 hb
    obtain ⟨k, hk, rfl, hJs, hbr⟩ := hrel
    have hlen := upto_len (dot := dot) k hk
    obtain ⟨hBc, hBl⟩ := hR.out wr hbr
    by_cases hlt : k < m
    · have hlt' : (k : Int) < m := by omega
      have hs := Lib.hid (upto_succ (dot := dot) k hlt)
      obtain ⟨ad, rfl, hc⟩ := hA k hlt
      have hcx : wr.cell? (ad.add k) = some (.bool (dot k)) := ((h0w.trans hbr.1).cell (p := ad.add k) (lt_of_cell hc |> (by rw [block_add]; exact ·))).trans hc
      have hcl : ad.block < wr.heap.size := Nat.lt_of_lt_of_le (lt_of_cell hc) (h0w.trans hbr.1).size
      clear hc
      replace hbr := Lib.hid hbr
      have hJr := Lib.hid (fun V (hV : Ext wr V) => hJ _ _ _ hJs hV)
      clear hJs
      generalize hd : dot k = on at *
      cases on
      · replace hd := Lib.hid hd
        gi_wp2
        refine Flow.wpIn_flow Flow.Wide.wide 15 [(0, true), (1, true), (2, true), (3, true), (4, true), (5, true), (6, true), (7, true), (8, true), (9, true), (10, true), (11, true), (12, true), (13, true), (14, true)] (by kernel_rfl) (by kernel_rfl) ?_
        simp only [List.map_cons, List.map_nil, List.getD_cons_succ, List.getD_cons_zero]
        repeat (first
          | (refine Flow.WalkL.move rfl ?_
             simp only [Act.put, Act.eval, Array.getD_eq_getD_getElem?, List.getElem?_toArray, List.getElem?_cons_succ, List.getElem?_cons_zero, Option.getD_some, List.setIfInBounds_toArray, List.set_cons_zero, List.set_cons_succ])
          | (refine Flow.WalkL.assign rfl ?_
             simp only [Act.put, Act.eval, Array.getD_eq_getD_getElem?, List.getElem?_toArray, List.getElem?_cons_succ, List.getElem?_cons_zero, Option.getD_some, List.setIfInBounds_toArray, List.set_cons_zero, List.set_cons_succ])
          | (refine Flow.WalkL.run (v := ?_) rfl (fun w1 hC => ?_) ?_
             rotate_left
             · obtain ⟨hCc, hCf⟩ := hC.rules
               go_simp
               with_reducible rfl
             simp only [Act.put, List.setIfInBounds_toArray, List.set_cons_zero, List.set_cons_succ]))
        repeat (refine Flow.WalkL.skip rfl ?_; simp only [Act.put, List.setIfInBounds_toArray, List.set_cons_zero, List.set_cons_succ])
        repeat (first
          | (refine Flow.WalkL.move rfl ?_
             simp only [Act.put, Act.eval, Array.getD_eq_getD_getElem?, List.getElem?_toArray, List.getElem?_cons_succ, List.getElem?_cons_zero, Option.getD_some, List.setIfInBounds_toArray, List.set_cons_zero, List.set_cons_succ])
          | (refine Flow.WalkL.assign rfl ?_
             simp only [Act.put, Act.eval, Array.getD_eq_getD_getElem?, List.getElem?_toArray, List.getElem?_cons_succ, List.getElem?_cons_zero, Option.getD_some, List.setIfInBounds_toArray, List.set_cons_zero, List.set_cons_succ])
          | (refine Flow.WalkL.run (v := ?_) rfl (fun w1 hC => ?_) ?_
             rotate_left
             · obtain ⟨hCc, hCf⟩ := hC.rules
               go_simp
               with_reducible rfl
             simp only [Act.put, List.setIfInBounds_toArray, List.set_cons_zero, List.set_cons_succ]))
        refine Flow.WalkL.nil ?_
        simp only [List.drop]
        intro w2 hE2
        have hJ2 := hJr.out _ hE2
        have hb2 := hbr.out.trans (Keep2.of_ext hE2 (Nat.le_trans hn0 hbr.out.1.size))
        gi_wp2
        exact ⟨⟨k + 1, hlt, by go_num, by rw [hs.out]; simpa using hJ2, hb2⟩, by simp only [intOf]; omega⟩
      · replace hd := Lib.hid hd
        have hw0 : (0 : Int) < (Wn : Int) := by
          rcases Int.lt_or_le 0 (Wn : Int) with h1 | h1
          · exact h1
          · have h := hkm.out; rw [show (Wn : Int) = 0 by omega, Int.zero_mul] at h; omega
        have hr0 := Int.emod_nonneg (k : Int) (show (Wn : Int) ≠ 0 by omega)
        have hr1 := Int.emod_lt_of_pos (k : Int) hw0
        have hq0 : 0 ≤ (k : Int) / Wn := Int.ediv_nonneg (by omega) (by omega)
        have hq1 : (k : Int) / Wn ≤ k := Int.ediv_le_self _ (by omega)
        have hmd : (k : Int).tmod Wn = (k : Int) % Wn := Int.tmod_eq_emod_of_nonneg (by omega)
        have hdv : (k : Int).tdiv Wn = (k : Int) / Wn := Int.tdiv_eq_ediv_of_nonneg (by omega)
        have hwn : Wn ≠ 0 := by omega
        have hwq : IntKind.i64.wrap ((k : Int) / Wn) = (k : Int) / Wn := by rw [IntKind.wrap_i64]; omega
        gi_wp2
        refine Flow.wpIn_flow Flow.Wide.wide 12 [(0, true), (1, true), (2, true), (3, true), (4, true), (5, true), (6, true), (7, true), (8, true), (9, true), (10, true), (11, true)] (by kernel_rfl) (by kernel_rfl) ?_
        simp only [List.map_cons, List.map_nil, List.getD_cons_succ, List.getD_cons_zero]
        repeat (first
          | (refine Flow.WalkL.move rfl ?_
             simp only [Act.put, Act.eval, Array.getD_eq_getD_getElem?, List.getElem?_toArray, List.getElem?_cons_succ, List.getElem?_cons_zero, Option.getD_some, List.setIfInBounds_toArray, List.set_cons_zero, List.set_cons_succ])
          | (refine Flow.WalkL.assign rfl ?_
             simp only [Act.put, Act.eval, Array.getD_eq_getD_getElem?, List.getElem?_toArray, List.getElem?_cons_succ, List.getElem?_cons_zero, Option.getD_some, List.setIfInBounds_toArray, List.set_cons_zero, List.set_cons_succ])
          | (refine Flow.WalkL.run (v := ?_) rfl (fun w1 hC => ?_) ?_
             rotate_left
             · obtain ⟨hCc, hCf⟩ := hC.rules
               go_simp
               with_reducible rfl
             simp only [Act.put, List.setIfInBounds_toArray, List.set_cons_zero, List.set_cons_succ]))
        refine Flow.WalkL.nil ?_
        simp only [List.drop]
        intro w2 hE2
        have hJ2 := hJr.out _ hE2
        have hb2 := Lib.hid (hbr.out.trans (Keep2.of_ext hE2 (Nat.le_trans hn0 hbr.out.1.size)))
        obtain ⟨fn, tmps, assign, body, hy, hRd⟩ := hY _ ⟨k, hlt⟩ w2 hJ2 (by omega)
        clear hmd hdv hwq hr0 hr1 hq0 hq1 hBc hcx
        gi_wp2
        refine hRd.mono ?_
        rintro e W3 (⟨rfl, hJ3, hk3⟩ | ⟨rfl, hJx3⟩)
        · have hb3 := hb2.out.trans hk3
          gi_wp2
          exact ⟨⟨k + 1, hlt, by go_num, by rw [hs.out]; simpa using hJ3, hb3⟩, by simp only [intOf]; omega⟩
        · gi_wp2
          refine bodyPost_ret (results_none rfl _ _ _) rfl ?_
          exact ⟨⟨_, rfl⟩, .inr ⟨_, ⟨k + 1, hlt, by rw [hs.out]; rfl⟩, hJx3⟩⟩
    · obtain rfl : k = m := by omega
      gi_wp2
      go_end0
      exact ⟨⟨_, rfl⟩, .inl ⟨_, rfl, hJs⟩⟩

/-- **dots**: the bitmap is boxed; the function value captures the box. -/
theorem dots_any (W H : Int) (A : Option Addr) (m c : Nat) (w : World) :
    Calls Tryd.prog 48 #[bmp W H A m c] w fun e w' => e = .returned (.func (.func 60) #[] #[.pointer (some ⟨w.heap.size, 0, none⟩)]) ∧ w.alloc (.cells #[.int .i64 W, .int .i64 H, .slice A m c] 30) = w' := by
  go_enter Tryd.func48, Tryd.ntmps48
  go_wp2
  go_ret
  exact ⟨rfl, rfl⟩

theorem dots_stops (nd : Nat) (hn : 1 ≤ nd) (Bn : Nat) (Wn Hn : Nat) (A : Option Addr) (m c : Nat) (dot : Nat → Bool) (hok : chk Wn Hn m = 0) (w0 w : World) (h0w : Below w0.heap.size w0 w)
    (hB : Blk w Bn 30 #[.int .i64 Wn, .int .i64 Hn, .slice A m c]) (hA : Bools w0 A m dot) :
    SeqStopsK Fence.wide nd Tryd.prog 60 #[.pointer (some ⟨Bn, 0, none⟩)] (fun x : Fin m => #[dotV Wn x.val]) (Keep2 w0.heap.size Bn) (fun ys => ys = upto m dot m (Nat.le_refl _)) (fun pre => ∃ k h, pre = upto m dot k h) m w :=
  fun l J Jx W hW hJ _ hY h0 => dots1_in nd hn l Bn Wn Hn A m c dot hok w0 w h0w.size J Jx hY (fun pre V V' hs hE => hJ pre V V' none hs ⟨hE.os, hE.tape, hE.output, hE.size, fun i hi _ => Below.block hE i hi⟩ (fun r e => by cases e)) hB hA h0w W (Keep2.of_ext hW h0w.size) h0
end Go.Proofs.YtfgcogkhnnflcaaDoor
end

section
namespace Go.Proofs.YtfgcogkhnnflcaaDoor
open Go.RowKit Go.Shelf Go.Flow Go.Plain
open Go.Proofs
attribute [local go_sem] block_add
attribute [local go_sem] Oper.semAt_some

theorem blk_own {β : Type} (B : Nat) (t : TypeId) (f : β → Array Value) : Own (fun s W => Blk W B t (f s)) := fun s X Y row hs hg hrow =>
  (hg.block B (Blk.lt hs) (fun e' => by obtain ⟨o, ho, hc⟩ := hrow B e'.symm; rw [show X.heap[B]? = _ from hs] at ho; cases ho; cases hc)).trans hs

set_option maxRecDepth 100000 in
set_option maxHeartbeats 2000000 in
theorem count_in (Wn Hn : Nat) (A : Option Addr) (m c : Nat) (dot : Nat → Bool) (hok : chk Wn Hn m = 0) (fv : FuncId) (cap : Array Value) (p : Nat → Bool) (w : World) (hA : Bools w A m dot)
    (he : ∀ args w, (callFunc fv args).run Tryd.prog w = .ok (.enter fv args) w)
    (hh : ∀ k, k < m → ∀ w1, Ext w w1 → Calls Tryd.prog fv (#[dotV Wn k] ++ cap) w1 fun e w' => e = .returned (.bool (p k)) ∧ Ext w1 w') :
    Calls Tryd.prog 35 #[bmp Wn Hn A m c, .func (.func fv) #[] cap] w fun e w' => e = .returned (.int .i64 (cnt (fun k => dot k && p k) m)) ∧ Ext w w' := by
  refine (callsIn_wide (n := 5)).1 ?_
  refine callsIn_of_wp_marks Tryd.func35 rfl trivial ?_ rfl
  simp only [Tryd.ntmps35, List.size_toArray, List.length_cons, List.length_nil, Nat.reduceAdd, Nat.reduceSub, Array.replicate_succ, Array.replicate_zero, List.push_toArray, List.append_toArray, List.nil_append, List.cons_append]
  gi_wp2
  refine ⟨trivial, callsIn_wide.2 ((dots_any Wn Hn A m c _).mono ?_)⟩
  rintro e w1 ⟨rfl, hw1⟩
  have bP : Blk w1 (w.heap.size + 1) 82 #[.func (.func fv) #[] cap] := by
    subst hw1; exact ((Blk.new' (by simp) _ _).alloc _).alloc _
  have bN : Blk w1 (w.heap.size + 1 + 1) 3 #[.int .i64 0] := by
    subst hw1; exact (Blk.new' (by simp) _ _).alloc _
  have bB : Blk w1 (w.heap.size + 1 + 1 + 1) 30 #[.int .i64 Wn, .int .i64 Hn, .slice A m c] := by
    subst hw1; exact Blk.new' (by simp) _ _
  have hE : Ext w w1 := by subst hw1; exact (((Ext.refl w).alloc _).alloc _ |>.alloc _).alloc _
  have hsz : w1.heap.size = w.heap.size + 4 := by subst hw1; simp
  clear hw1
  gi_wp2
  have hlen : m ≤ 9216 := by
    have hkw := okB hok
    have := area_bd ⟨hkw.1, hkw.2.1⟩ ⟨hkw.2.2.1, hkw.2.2.2.1⟩; have := hkw.2.2.2.2; omega
  refine wpIn_rangeFunc_ownH (F := Fence.wide) rfl (by omega) (gf := 60) (lb := #[.pointer (some ⟨w.heap.size + 1 + 1 + 1, 0, none⟩)]) rfl trivial (enters_of Tryd.func60 (by kernel_rfl) rfl)
    (dots_stops (5 - 1) (by omega) (w.heap.size + 1 + 1 + 1) Wn Hn A m c dot hok w w1 hE bB hA) Keep2.trans (Keep2.put (by omega) (by omega)) (Below.refl _ _) (fun _ => rfl)
    (fun pre W => (Blk W (w.heap.size + 1) 82 #[.func (.func fv) #[] cap] ∧ Blk W (w.heap.size + 1 + 1) 3 #[.int .i64 ((pre.filter fun x : Fin m => p x.val).length : Int)]) ∧ Below w.heap.size w W)
    (fun _ _ _ => False)
    (OwnFrom.and (OwnFrom.and (Own.from (blk_own _ _ _) _) (Own.from (blk_own _ _ _) _)) (ownFrom_below (Nat.le_refl _) (by omega)))
    (fun _ _ _ _ _ hs _ _ => hs)
    ⟨⟨bP, bN⟩, hE⟩
    (fun x a' W => ∃ Bx, w.heap.size + 1 + 1 < Bx ∧ Blk W Bx 80 #[.int .i64 ((x.val : Int) % Wn), .int .i64 ((x.val : Int) / Wn)] ∧ a' = { tmps := #[bmp Wn Hn A m c, .func (.func fv) #[] cap, .pointer (some ⟨w.heap.size, 0, none⟩), .pointer (some ⟨w.heap.size + 1, 0, none⟩), .int .i64 0, .pointer (some ⟨w.heap.size + 1 + 1, 0, none⟩), .pointer (some ⟨Bx, 0, none⟩), bmp Wn Hn A m c, .func (.func 60) #[] #[.pointer (some ⟨w.heap.size + 1 + 1 + 1, 0, none⟩)], dotV Wn x.val, undef, undef, undef, undef, undef, undef], defers := [] })
    (fun x a' _ X Y row hs hg hr => by obtain ⟨Bx, h1, h2, h3⟩ := hs; exact ⟨Bx, h1, blk_own Bx 80 (fun (_ : Unit) => #[Value.int .i64 ((x.val : Int) % Wn), .int .i64 ((x.val : Int) / Wn)]) () X Y row h2 hg (fun r e => (hr r e).2), h3⟩)
    ?assign ?body ?done ?stop
  case assign =>
    rintro l pre x W K ⟨⟨bP1, bN1⟩, hB1⟩ hK
    gi_wp2
    exact hK _ _ ((KeepsOthers.alloc _ _).from _) (Keep2.of_ext ((Ext.refl W).alloc _) hB1.size) ⟨⟨bP1.alloc _, bN1.alloc _⟩, hB1.alloc hB1.size _⟩ ⟨W.heap.size, bN1.lt, Blk.new W _ _, rfl⟩
  case body =>
    rintro l pre x a' W hl ⟨r, hr⟩ ⟨⟨bP1, bN1⟩, hB1⟩ ⟨Bx, hBx, bX, rfl⟩ hlt
    obtain ⟨pc, pf, pl⟩ := bP1.rules
    obtain ⟨xc, xf, xl⟩ := bX.rules
    have hEW : Ext w W := hB1
    have hcnt : (pre.filter fun x : Fin m => p x.val).length ≤ m := Nat.le_trans (List.length_filter_le _ _) (Nat.le_of_lt hlt)
    cases hp : p x.val
    · gi_wp2
      refine ⟨trivial, CallsIn.inRound l (callsIn_wide.2 ((hh x.val x.isLt W hEW).mono ?_))⟩
      rintro e W2 ⟨rfl, hE2⟩
      rw [hp]
      gi_wp2
      have hX : (pre ++ [x]).filter (fun x : Fin m => p x.val) = pre.filter (fun x : Fin m => p x.val) := by simp [hp]
      exact ⟨KeepsFrom.of_grownBy (grown_none hE2 none) (fun j e => by cases e), Keep2.of_ext hE2 hB1.size, ⟨bP1.ext hE2, by rw [hX]; exact bN1.ext hE2⟩, hEW.trans hE2⟩
    · gi_wp2
      refine ⟨trivial, CallsIn.inRound l (callsIn_wide.2 ((hh x.val x.isLt W hEW).mono ?_))⟩
      rintro e W2 ⟨rfl, hE2⟩
      rw [hp]
      have bN2 := bN1.ext hE2
      obtain ⟨nc, nf, nl⟩ := bN2.rules
      clear pc pf pl xc xf xl
      gi_wp2
      have hX : ((pre ++ [x]).filter (fun x : Fin m => p x.val)).length = (pre.filter (fun x : Fin m => p x.val)).length + 1 := by simp [hp]
      exact ⟨(KeepsFrom.of_grownBy (grown_none hE2 none) (fun j e => by cases e)).trans ((KeepsOthers.setCell _ _ _).from _), (Keep2.of_ext hE2 hB1.size).trans (Keep2.set_ (by simp; omega) (by simp) _),
        ⟨(bP1.ext hE2).far (by simp) _, by rw [hX]; exact bN2.set_ 0 _⟩, (hEW.trans hE2).setCell (by simp; omega) _⟩
  case done =>
    rintro D zs W hD rfl ⟨⟨bP1, bN1⟩, hB1⟩ hK
    obtain ⟨nc, nf, nl⟩ := bN1.rules
    rw [upto_cnt] at nc
    gi_wp2
    refine ⟨by simp, .inl ⟨_, _, rfl, run_takeDeferred hK, ?_⟩⟩
    exact ⟨_, results_tmp rfl _ _ _, rfl, hB1.trans (belowK_b (w := w) (Nat.le_refl _) W D _ _ (by omega) hK rfl rfl)⟩
  case stop =>
    rintro D c pre W _ _ h _
    exact h.elim

theorem always_any (x y : Int) (w : World) : Calls Tryd.prog 36 #[.agg #[.int .i64 x, .int .i64 y]] w fun e w' => e = .returned (.bool true) ∧ Ext w w' := by
  go_enter Tryd.func36, Tryd.ntmps36
  go_wp2
  go_ret
  exact ⟨rfl, (Ext.refl w).alloc _⟩

/-- **Count** of a good bitmap. -/
theorem Count_any (W H : Int) (A : Option Addr) (m c : Nat) (dot : Nat → Bool) (hok : chk W H m = 0) (w : World) (hA : Bools w A m dot) :
    Calls Tryd.prog 18 #[bmp W H A m c] w fun e w' => e = .returned (.int .i64 (cnt dot m)) ∧ Ext w w' := by
  have hkw := okB hok
  obtain ⟨Wn, rfl⟩ := Int.eq_ofNat_of_zero_le hkw.1
  obtain ⟨Hn, rfl⟩ := Int.eq_ofNat_of_zero_le hkw.2.2.1
  have hE := Lib.hid ((Ext.refl w).alloc (.cells #[.int .i64 Wn, .int .i64 Hn, .slice A m c] 30))
  have hA1 := Lib.hid (hA.ext hE.out)
  replace hok := Lib.hid hok
  clear hkw
  go_enter Tryd.func18, Tryd.ntmps18
  go_wp2_with fail
  refine (count_in Wn Hn A m c dot hok.out 36 #[] (fun _ => true) _ hA1.out (enters_of Tryd.func36 (by kernel_rfl) rfl) (fun k _ w1 _ => always_any _ _ _)).mono ?_
  rintro e w1 ⟨rfl, hE1⟩
  simp only [Bool.and_true]
  go_wp2_with fail
  go_ret
  exact ⟨rfl, hE.out.trans hE1⟩
end Go.Proofs.YtfgcogkhnnflcaaDoor
end

section
namespace Go.Proofs.YtfgcogkhnnflcaaDoor
open Go.RowKit Go.Flow Go.Plain
open Go.Proofs
attribute [local go_sem] block_add
attribute [local go_sem ↓] Go.wp_at_zero Go.wp_at_succ

theorem crop_col (Wn Hn n m : Nat) (dot : Nat → Bool) (k : Nat) (hk : k < Wn) (hn : (n : Int) = (Wn : Int) * Hn) (hm : (m : Int) = (1 : Int) * Hn) : cnt (cropB Wn Hn dot k 0 1) m = colF Wn n dot k := by
  obtain rfl : m = Hn := by omega
  obtain rfl : n = Wn * m := by exact_mod_cast hn
  unfold colF
  rw [col_part Wn dot k hk m]
  refine cnt_congr fun j hj => ?_
  unfold cropB hasB
  rw [Int.emod_one, Int.ediv_one, if_pos ⟨by omega, by omega, by omega, by omega⟩]
  congr 1
  rw [show (0 + (j : Int)) * (Wn : Int) + ((k : Int) + 0) = ((j * Wn + k : Nat) : Int) by push_cast; rw [Int.zero_add, Int.add_zero]]
  exact Int.toNat_natCast _
theorem crop_row (Wn Hn n m : Nat) (dot : Nat → Bool) (k : Nat) (hk : k < Hn) (hn : (n : Int) = (Wn : Int) * Hn) (hm : (m : Int) = (Wn : Int) * (1 : Int)) : cnt (cropB Wn Hn dot 0 k Wn) m = rowBd Wn n dot k := by
  obtain rfl : m = Wn := by omega
  obtain rfl : n = m * Hn := by exact_mod_cast hn
  unfold rowBd
  rcases Nat.eq_zero_or_pos m with rfl | hW
  · rw [Nat.zero_mul]; rfl
  · obtain ⟨r, rfl⟩ : ∃ r, Hn = k + 1 + r := ⟨Hn - k - 1, by omega⟩
    rw [row_part m hW dot k r]
    refine cnt_congr fun j hj => ?_
    unfold cropB hasB
    rw [Int.emod_eq_of_lt (by omega) (by omega), Int.ediv_eq_zero_of_lt (by omega) (by omega), if_pos ⟨by omega, by omega, by omega, by omega⟩]
    congr 1
    rw [show ((k : Int) + 0) * (m : Int) + (0 + (j : Int)) = ((k * m + j : Nat) : Int) by push_cast; rw [Int.zero_add, Int.add_zero]]
    exact Int.toNat_natCast _
theorem sum_bd {f : Nat → Int} {M : Int} (hf : ∀ k, 0 ≤ f k ∧ f k ≤ M) : ∀ k : Nat, 0 ≤ sumTo f k ∧ sumTo f k ≤ k * M := fun k =>
  ⟨sumTo_nonneg fun j _ => (hf j).1, by have := sumTo_le (f := f) (g := fun _ => M) (n := k) (fun j _ => (hf j).2); rwa [sumTo_const] at this⟩
theorem colF_bd (W : Int) (n : Nat) (dot : Nat → Bool) (k : Nat) : 0 ≤ colF W n dot k ∧ colF W n dot k ≤ n := ⟨cnt_nonneg _ _, cnt_le _ _⟩
theorem rowF_bd (W : Int) (n : Nat) (dot : Nat → Bool) (k : Nat) : 0 ≤ rowBd W n dot k ∧ rowBd W n dot k ≤ n := ⟨cnt_nonneg _ _, cnt_le _ _⟩
theorem chk_crop {a b m : Nat} (ha : a ≤ 16) (hb : b ≤ 16) (hm : (m : Int) = (a : Int) * b) : chk a b m = 0 := by
  unfold chk
  rw [sideB_iff.2 ⟨by omega, by omega⟩, sideB_iff.2 ⟨by omega, by omega⟩]
  simp [hm]

set_option maxHeartbeats 1000000 in
set_option maxRecDepth 100000 in
theorem BoundColumns_any (A : Option Addr) (N c : Nat) (f : Nat → Int) (w : World)
    (hN : N ≤ c) (hc : c ≤ 4611686018427387904) (hA : Ints w A N f) (hS : Sides w) :
    Calls Tryd.prog 5 #[.slice A N c] w fun e w' => e = .returned (.bool true) ∧ Ext w w' := by
  go_enter Tryd.func5, Tryd.ntmps5
  go_wp2_with fail
  refine (sanity_any _ hS).mono ?_
  rintro e w1 ⟨rfl, hE1⟩
  go_wp2_with fail
  refine (cut_any A N c w1 hN hc).mono ?_
  rintro e w2 ⟨rfl, rfl⟩
  have hl := few_le N 60
  go_wp2_with fail
  refine (Made_any A (few N 60) c f w1 (by omega) ((hA.take hl).ext hE1)).mono ?_
  rintro e w2 ⟨Wa, Ha, ga, na, fa, rfl, ha1, ha2, ha3, ha4, han, hOa, hga, hE2⟩
  obtain ⟨Wn, rfl⟩ := Int.eq_ofNat_of_zero_le ha1
  obtain ⟨Hn, rfl⟩ := Int.eq_ofNat_of_zero_le ha3
  have hca := made_chk ha1 ha2 ha3 ha4 han
  have hbd := area_bd (W := Wn) (H := Hn) ⟨ha1, by omega⟩ ⟨ha3, by omega⟩
  have hna : na ≤ 9216 := by omega
  replace hE2 := hE1.trans hE2
  have hX3 := Blk.new w2 30 #[.int .i64 Wn, .int .i64 Hn, .slice (some ⟨ga, 0, none⟩) na na]
  have hOb := (hOa.ext ((Ext.refl w2).alloc (.cells #[.int .i64 Wn, .int .i64 Hn, .slice (some ⟨ga, 0, none⟩) na na] 30))).arr
  have hE3 := hE2.alloc (.cells #[.int .i64 Wn, .int .i64 Hn, .slice (some ⟨ga, 0, none⟩) na na] 30)
  replace hX3 := Lib.hid hX3
  replace hOb := Lib.hid hOb
  replace hE3 := Lib.hid hE3
  replace hca := Lib.hid hca
  replace han := Lib.hid han
  clear hE1 hE2 hl hga hOa hbd
  go_wp2_with fail
  refine (Columns_ok Wn Hn _ na na fa _ hca.out hOb.out (hS.ext hE3.out)).mono ?_
  rintro e w4 ⟨X, Y, cx, cy, rfl, hC, hR, hE4⟩
  simp only [Int.toNat_natCast] at hC hR ⊢
  have hQ : ∀ w', Ext w4 w' → Blk w' w2.heap.size 30 #[.int .i64 Wn, .int .i64 Hn, .slice (some ⟨ga, 0, none⟩) na na] ∧ Bools w' (some ⟨ga, 0, none⟩) na fa ∧ Ints w' X Wn (colF Wn na fa) ∧ Ints w' Y Hn (rowBd Wn na fa) ∧ Ext w w' := by
    intro w' h
    exact ⟨hX3.out.ext (hE4.trans h), hOb.out.ext (hE4.trans h), hC.ext h, hR.ext h, hE3.out.trans (hE4.trans h)⟩
  replace hQ := Lib.hid hQ
  clear hE4 hC hR hX3 hOb hE3
  obtain ⟨q1, q2, q3, q4, q5⟩ := hQ.out w4 (Ext.refl w4)
  obtain ⟨q1c, q1f, q1l⟩ := q1.rules
  have n1 : ((Wn : Int) != Wn) = false := by simp
  have n2 : ((Hn : Int) != Hn) = false := by simp
  replace q2 := Lib.hid q2
  replace q3 := Lib.hid q3
  replace q4 := Lib.hid q4
  replace q5 := Lib.hid q5
  go_wp2_with fail
  go_loopw [7, 40] (fun s i wr => ∃ k : Nat, k ≤ Wn ∧ i = .int .i64 k ∧ s = .int .i64 (sumTo (colF Wn na fa) k) ∧ Ext w4 wr) (fun _ i _ => Wn - (intOf i).toNat)
  case atStart => exact ⟨0, by omega, rfl, rfl, Ext.refl w4⟩
  case round =>
    clear q1 q2 q3 q4 q5 q1c q1f q1l n1 n2
    obtain ⟨k, hk, rfl, rfl, hE⟩ := hrel
    obtain ⟨q1, q2, q3, q4, q5⟩ := hQ.out wr hE
    obtain ⟨q1c, q1f, q1l⟩ := q1.rules
    have hsb := sum_bd (colF_bd Wn na fa) k
    have hs1 : sumTo (colF Wn na fa) (k + 1) = sumTo (colF Wn na fa) k + colF Wn na fa k := rfl
    have hkn : (k : Int) * na ≤ 16 * 9216 := Int.mul_le_mul (by omega) (by omega) (by omega) (by omega)
    by_cases hlt : k < Wn
    · have hlt' : (k : Int) < Wn := by omega
      have hcb := colF_bd Wn na fa k
      have hcc := fun m hm => crop_col Wn Hn na m fa k hlt han.out hm
      obtain ⟨cv, hcv⟩ : ∃ cv, colF Wn na fa k = cv := ⟨_, rfl⟩
      obtain ⟨ad, rfl, hcx⟩ := q3 k hlt
      simp only [hcv] at hs1 hcb hcc hcx
      replace hs1 := Lib.hid hs1
      replace hcc := Lib.hid hcc
      replace hcv := Lib.hid hcv
      have hrb := Lib.hid (rowF_bd Wn na fa)
      replace q2 := Lib.hid q2
      replace q4 := Lib.hid q4
      replace q5 := Lib.hid q5
      replace hE := Lib.hid hE
      generalize sumTo (colF Wn na fa) k = sv at *
      have hsw : IntKind.i64.wrap (sv + cv) = sv + cv := by rw [IntKind.wrap_i64]; omega
      have hab := lt_of_cell hcx
      clear hkn hsb
      go_wp2_with fail
      refine (Crop_any Wn Hn _ na na fa k 0 1 Hn wr hca.out q2.out (by omega) (by omega) (by omega) (by omega)).mono ?_
      rintro e w6 ⟨g, m, rfl, hm, hO, hE6⟩
      have hcm := chk_crop (a := 1) (b := Hn) (m := m) (by omega) (by omega) hm
      have hb6 := Blk.new w6 30 #[.int .i64 1, .int .i64 Hn, .slice (some ⟨g, 0, none⟩) m m]
      have hO6 := (hO.ext ((Ext.refl w6).alloc (.cells #[.int .i64 1, .int .i64 Hn, .slice (some ⟨g, 0, none⟩) m m] 30))).arr
      replace hO6 := Lib.hid hO6
      replace hm := Lib.hid (hcc.out m hm)
      replace hE6 := Lib.hid (hE.out.trans (hE6.alloc (.cells #[.int .i64 1, .int .i64 Hn, .slice (some ⟨g, 0, none⟩) m m] 30)))
      replace hcm := Lib.hid hcm
      clear q1 q1c q1f q1l hcx hab hO
      replace hb6 := Lib.hid hb6
      go_wp2_with fail
      refine (Count_any 1 Hn _ m m _ hcm.out _ hO6.out).mono ?_
      rintro e w7 ⟨rfl, hE7⟩
      rw [hm.out]
      have n1 : (cv != cv) = false := by simp
      replace hE7 := Lib.hid (hE6.out.trans hE7)
      go_wp2_with fail
      exact ⟨⟨k + 1, by omega, by go_num, by rw [hs1.out], hE7.out⟩, by simp only [intOf]; omega⟩
    · obtain rfl : k = Wn := by omega
      clear hs1 hkn hsb
      replace q2 := Lib.hid q2
      replace q3 := Lib.hid q3
      replace q4 := Lib.hid q4
      replace q5 := Lib.hid q5
      replace hE := Lib.hid hE
      generalize hsv : sumTo (colF k na fa) k = sv at *
      replace hsv := Lib.hid hsv
      go_wp2_with fail
      obtain ⟨w9, rfl⟩ : ∃ w9 : World, w9 = wr := ⟨_, rfl⟩
      go_loopw [8, 67] (fun s i wr => ∃ j : Nat, j ≤ Hn ∧ i = .int .i64 j ∧ s = .int .i64 (sumTo (rowBd k na fa) j) ∧ Ext w4 wr) (fun _ i _ => Hn - (intOf i).toNat)
      case atStart => exact ⟨0, by omega, rfl, rfl, hE.out⟩
      case round =>
        clear q1 q2 q3 q4 q5 q1c q1f q1l hE
        obtain ⟨j, hj, rfl, rfl, hE⟩ := hrel
        obtain ⟨q1, q2, q3, q4, q5⟩ := hQ.out wr hE
        obtain ⟨q1c, q1f, q1l⟩ := q1.rules
        have hsb := sum_bd (rowF_bd k na fa) j
        have hs1 : sumTo (rowBd k na fa) (j + 1) = sumTo (rowBd k na fa) j + rowBd k na fa j := rfl
        have hkn : (j : Int) * na ≤ 16 * 9216 := Int.mul_le_mul (by omega) (by omega) (by omega) (by omega)
        by_cases hlt : j < Hn
        · have hlt' : (j : Int) < Hn := by omega
          have hcb := rowF_bd k na fa j
          have hcc := fun m hm => crop_row k Hn na m fa j hlt han.out hm
          obtain ⟨cv, hcv⟩ : ∃ cv, rowBd k na fa j = cv := ⟨_, rfl⟩
          obtain ⟨ad, rfl, hcx⟩ := q4 j hlt
          simp only [hcv] at hs1 hcb hcc hcx
          replace hs1 := Lib.hid hs1
          replace hcc := Lib.hid hcc
          replace hcv := Lib.hid hcv
          replace q2 := Lib.hid q2
          replace q3 := Lib.hid q3
          replace q5 := Lib.hid q5
          replace hE := Lib.hid hE
          generalize sumTo (rowBd k na fa) j = s2 at *
          have hsw : IntKind.i64.wrap (s2 + cv) = s2 + cv := by rw [IntKind.wrap_i64]; omega
          have hab := lt_of_cell hcx
          clear hkn hsb
          go_wp2_with fail
          refine (Crop_any k Hn _ na na fa 0 j k 1 wr hca.out q2.out (by omega) (by omega) (by omega) (by omega)).mono ?_
          rintro e w6 ⟨g, m, rfl, hm, hO, hE6⟩
          have hcm := chk_crop (a := k) (b := 1) (m := m) (by omega) (by omega) hm
          have hb6 := Blk.new w6 30 #[.int .i64 k, .int .i64 1, .slice (some ⟨g, 0, none⟩) m m]
          have hO6 := (hO.ext ((Ext.refl w6).alloc (.cells #[.int .i64 k, .int .i64 1, .slice (some ⟨g, 0, none⟩) m m] 30))).arr
          replace hO6 := Lib.hid hO6
          replace hm := Lib.hid (hcc.out m hm)
          replace hE6 := Lib.hid (hE.out.trans (hE6.alloc (.cells #[.int .i64 k, .int .i64 1, .slice (some ⟨g, 0, none⟩) m m] 30)))
          replace hcm := Lib.hid hcm
          clear q1 q1c q1f q1l hcx hab hO
          replace hb6 := Lib.hid hb6
          go_wp2_with fail
          refine (Count_any k 1 _ m m _ hcm.out _ hO6.out).mono ?_
          rintro e w7 ⟨rfl, hE7⟩
          rw [hm.out]
          have n1 : (cv != cv) = false := by simp
          replace hE7 := Lib.hid (hE6.out.trans hE7)
          go_wp2_with fail
          exact ⟨⟨j + 1, by omega, by go_num, by rw [hs1.out], hE7.out⟩, by simp only [intOf]; omega⟩
        · obtain rfl : j = Hn := by omega
          have hnw : na = k * j := by exact_mod_cast han.out
          have hc1 : sv = cnt fa na := by rw [← hsv.out, hnw]; exact col_sum k j fa
          have hc2 : sumTo (rowBd k na fa) j = cnt fa na := by rw [hnw]; exact row_sum k j fa
          subst hc1
          rw [hc2]
          clear hs1 hkn hsb hc2 hnw hsv
          replace q3 := Lib.hid q3
          replace q4 := Lib.hid q4
          replace q5 := Lib.hid q5
          replace q2 := Lib.hid q2
          replace hE := Lib.hid hE
          go_wp2_with fail
          refine (Count_any k j _ na na fa hca.out _ q2.out).mono ?_
          rintro e w7 ⟨rfl, hE7⟩
          have hfin := Lib.hid (q5.out.trans hE7)
          generalize cnt fa na = cv
          have n1 : (cv == cv) = true := by simp
          clear q1 q2 q3 q4 q5 q1c q1f q1l hE7 hE
          go_wp2_with fail
          go_ret
          exact ⟨rfl, hfin.out⟩
end Go.Proofs.YtfgcogkhnnflcaaDoor
end
