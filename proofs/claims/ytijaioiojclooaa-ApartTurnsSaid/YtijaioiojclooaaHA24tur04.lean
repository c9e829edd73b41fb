/- ApartTurns: the statement. No condition. -/
import Derived.Test.YtijaioiojclooaaG25
import Derived.Test.YtijaioiojclooaaG24
import Derived.Test.YtijaioiojclooaaG23
import Derived.Test.YtijaioiojclooaaG18
import Derived.Test.YtijaioiojclooaaG04
import Derived.Scope
import Derived.Test.YtijaioiojclooaaG21
import Derived.Test.YtijaioiojclooaaG22
import Derived.Test.YtijaioiojclooaaG09
import Derived.Test.YtijaioiojclooaaG03
import Derived.RangeFuncLeaves
import Derived.RangeFuncRecord
import Derived.Shelf.Abstract
import Derived.Test.YtijaioiojclooaaG02
import Derived.Test.YtijaioiojclooaaG08
import Derived.Test.YtijaioiojclooaaG01
import Derived.Test.YtijaioiojclooaaG20
import Derived.RangeFuncNested
import Derived.Deep.AppendLies
import Derived.OrdersIn
import Derived.TacticsIn
import Derived.RangeFuncCalls
import Derived.Test.YtijaioiojclooaaG17
import Derived.Maps.AppendAt
import Derived.OwnWalk
import Derived.Test.YtijaioiojclooaaG19
import Derived.Test.YtijaioiojclooaaProg
import Derived.Test.YtijaioiojclooaaG11
import Derived.Laws.Cover3
import Derived.StillTail
import Derived.Below
import Derived.Deep.Draws
import Derived.WalkKit
import Derived.KernelRfl
import Derived.Test.YtijaioiojclooaaG14
import Derived.Test.YtijaioiojclooaaHA24tur01
import Derived.Test.YtijaioiojclooaaHA24tur02
import Derived.Test.YtijaioiojclooaaG16
import Derived.Lib.Hide
import Derived.Deep.QuietTactic
import Derived.BigQuiet
import Derived.Deep.DrawnRows
import Derived.Test.YtijaioiojclooaaG07
import Derived.Laws.StructEq
import Derived.Test.YtijaioiojclooaaG13
import Derived.Test.YtijaioiojclooaaG10
import Derived.Test.YtijaioiojclooaaG12
import Derived.Test.YtijaioiojclooaaG06
import Derived.Test.YtijaioiojclooaaG05
import Derived.Great.BuildSlice
import Derived.Test.YtijaioiojclooaaG15
import Derived.Test.YtijaioiojclooaaG32
import Derived.Test.YtijaioiojclooaaG30
import Derived.Test.YtijaioiojclooaaG29
import Derived.Test.YtijaioiojclooaaG26
import Derived.Test.YtijaioiojclooaaG27
import Derived.Test.YtijaioiojclooaaG28
import Derived.Test.YtijaioiojclooaaRows
import Derived.Test.YtijaioiojclooaaG31
import Derived.Test.YtijaioiojclooaaHA24tur03
import Derived.ProofKit
import Derived.OpenShut
import Derived.Deep.DeepHandedRow
import Derived.SizedLaws
import Derived.ChangeSlices
import Derived.Carry
import Derived.ChangeSame
set_option linter.unusedSimpArgs false
set_option linter.unusedVariables false
section
namespace Go.Proofs.Ytijaioiojclooaa
open Go.RowKit Go.Flow Go.AV Go.Plain
theorem lsN_le {f : Cl → Int} {v : Int} : ∀ {L : List Cl} {z : Int}, lsN f L z ≤ v ↔ z ≤ v ∨ ∃ c, c ∈ L ∧ f c ≤ v
  | [], z => ⟨.inl, fun h => h.elim id fun ⟨_, h, _⟩ => by cases h⟩
  | c :: L, z => by
    show lsN f L (min z (f c)) ≤ v ↔ _
    rw [lsN_le]
    constructor
    · rintro (h | ⟨d, h1, h2⟩)
      · by_cases hz : z ≤ v
        · exact .inl hz
        · exact .inr ⟨c, by simp, by omega⟩
      · exact .inr ⟨d, by simp [h1], h2⟩
    · rintro (h | ⟨d, h1, h2⟩)
      · exact .inl (by omega)
      · rcases List.mem_cons.1 h1 with rfl | h1
        · exact .inl (by omega)
        · exact .inr ⟨d, h1, h2⟩
theorem lsN_dom {f g : Cl → Int} {L M : List Cl} {z : Int} (h : ∀ c, c ∈ L → ∃ d, d ∈ M ∧ g d ≤ f c) : lsN g M z ≤ lsN f L z := by
  have h1 : lsN f L z ≤ lsN f L z := Int.le_refl _
  rw [lsN_le] at h1
  rw [lsN_le]
  rcases h1 with h1 | ⟨c, hc, h1⟩
  · exact .inl h1
  · obtain ⟨d, hd, h2⟩ := h c hc
    exact .inr ⟨d, hd, by omega⟩
theorem cnf_slk (a b : Bp) (x y : Bg) (h : cmpOk a b) : (cnfV a b x y).2 = decide ((slkV a b x y).1 ≤ 0) := by
  unfold cnfV slkV
  rw [if_pos h, if_pos h]
  show (cnfR (hitC a b x y) (alL a.W x y)).2 = decide (lsN (xsV a b x y) (alL a.W x y) ((a.n : Int) + 1) ≤ 0)
  unfold cnfR
  cases hf : (alL a.W x y).find? (hitC a b x y) with
  | some c =>
    have h1 := List.find?_some hf
    have h2 := List.mem_of_find?_eq_some hf
    exact (decide_eq_true (lsN_le.2 (.inr ⟨c, h2, of_decide_eq_true h1⟩))).symm
  | none =>
    rw [List.find?_eq_none] at hf
    refine (decide_eq_false fun h => ?_).symm
    rcases lsN_le.1 h with h | ⟨c, hc, h⟩
    · omega
    · exact hf c hc (decide_eq_true h)
def sh5 : Bool := (List.range 5).all fun m => (List.range (2 * m + 1)).all fun i => (List.range (2 * m + 1)).all fun j => decide ((((i : Int) - m, (j : Int) - m) : Int × Int) ∈ shL m)
theorem sh5_ok : sh5 = true := by decide +kernel
theorem sh5_mem {m : Nat} (hm : m ≤ 4) {d : Int × Int} : d ∈ shL m ↔ (-(m : Int) ≤ d.1 ∧ d.1 ≤ m) ∧ -(m : Int) ≤ d.2 ∧ d.2 ≤ m := by
  constructor
  · intro h
    obtain ⟨j, hj, rfl⟩ := List.getElem_of_mem h
    have := sh_bd hj
    rwa [List.getD_eq_getElem?_getD, List.getElem?_eq_getElem hj] at this
  · rintro ⟨⟨h1, h2⟩, h3, h4⟩
    have h := sh5_ok
    unfold sh5 at h
    have h := List.all_eq_true.1 (List.all_eq_true.1 (List.all_eq_true.1 h m (List.mem_range.2 (by omega))) (d.1 + m).toNat (List.mem_range.2 (by omega))) (d.2 + m).toNat (List.mem_range.2 (by omega))
    have h := of_decide_eq_true h
    rwa [show (((d.1 + m).toNat : Nat) : Int) - m = d.1 by omega, show (((d.2 + m).toNat : Nat) : Int) - m = d.2 by omega] at h
theorem al_mem2 {w : Int} {x y : Bg} {c : Cl} (hw : 0 ≤ w) : c ∈ alL w x y ↔ ((-(shN x y : Int) ≤ c.dx ∧ c.dx ≤ shN x y) ∧ -(shN x y : Int) ≤ c.dy ∧ c.dy ≤ shN x y) ∧ -4 ≤ c.col ∧ c.col ≤ w + 4 - stN w x y := by
  rw [mem_al, sh5_mem (shN_eq x y).2]
  have ht := stN_bd x y hw
  have hM : ((alM w x y : Nat) : Int) = w + 9 - stN w x y := by unfold alM; omega
  constructor
  · rintro ⟨h, i, hi, e⟩
    exact ⟨h, by omega, by omega⟩
  · rintro ⟨h, h1, h2⟩
    exact ⟨h, (c.col + 4).toNat, by omega, by omega⟩
/-- Wider strips leave fewer dots. -/
theorem only_mono {a b : Bp} {dx dy fr ti fr' ti' : Int} (h : ∀ i : Int, 0 ≤ i → i < a.W → fr ≤ i → i < ti → fr' ≤ i ∧ i < ti') : onlyN a b dx dy fr' ti' ≤ onlyN a b dx dy fr ti := by
  unfold onlyN
  refine sumTo_le fun j _ => cnt_mono fun i hi h1 => ?_
  unfold onB at h1 ⊢
  simp only [Bool.and_eq_true, Bool.or_eq_true, decide_eq_true_eq] at h1 ⊢
  refine ⟨⟨h1.1.1, ?_⟩, h1.2⟩
  by_cases g1 : (i : Int) < fr
  · exact .inl g1
  · by_cases g2 : ti ≤ (i : Int)
    · exact .inr g2
    · have := h i (by omega) (by omega) (by omega) (by omega)
      rcases h1.1.2 with h3 | h3 <;> omega
theorem stN_comm (w : Int) (x y : Bg) : stN w x y = stN w y x := by unfold stN; omega
theorem shN_comm (x y : Bg) : shN x y = shN y x := by
  have h1 := (shN_eq x y).1
  have h2 := (shN_eq y x).1
  omega
/-- One order has nothing that the other one does not have at least as good. -/
theorem slk_turn (a b : Bp) (x y : Bg) (h : cmpOk a b) : (slkV b a y x).1 ≤ (slkV a b x y).1 := by
  have h' : cmpOk b a := ⟨h.2.1, h.1, h.2.2.1.symm, h.2.2.2.symm⟩
  obtain ⟨ha, hb, hW, hH⟩ := h
  obtain ⟨q0, q1, q2, q3, q4⟩ := okB ha
  obtain ⟨-, -, -, -, r4⟩ := okB hb
  have hn : (b.n : Int) = a.n := by rw [q4, r4, hW, hH]
  unfold slkV
  rw [if_pos h', if_pos ⟨ha, hb, hW, hH⟩]
  show lsN (xsV b a y x) (alL b.W y x) ((b.n : Int) + 1) ≤ lsN (xsV a b x y) (alL a.W x y) ((a.n : Int) + 1)
  rw [hn, ← hW]
  refine lsN_dom fun c hc => ?_
  rw [al_mem2 q0] at hc
  have hm := (shN_eq x y).2
  have ht := stN_bd x y q0
  obtain ⟨⟨⟨c1, c2⟩, c3, c4⟩, c5, c6⟩ := hc
  obtain ⟨t, htt⟩ : ∃ t, stN a.W x y = t := ⟨_, rfl⟩
  rw [htt] at c6 ht
  obtain ⟨e, he⟩ : ∃ e, e = max (-4) (min (a.W + 4 - t) (c.col - c.dx)) := ⟨_, rfl⟩
  refine ⟨⟨-c.dx, -c.dy, e⟩, (al_mem2 q0).2 ⟨?_, ?_⟩, ?_⟩
  · rw [← shN_comm x y]
    dsimp only
    omega
  · rw [← stN_comm, htt]
    dsimp only
    omega
  · unfold xsV ovN
    dsimp only
    rw [← hW, ← stN_comm, htt, Int.neg_neg, Int.neg_neg]
    have m1 : onlyN b a (-c.dx) (-c.dy) e (e + t) ≤ onlyN b a (-c.dx) (-c.dy) (c.col - c.dx) (c.col - c.dx + t) := only_mono fun i h1 h2 h3 h4 => by rw [← hW] at h2; omega
    have m2 : onlyN a b c.dx c.dy (e - -c.dx) (e - -c.dx + t) ≤ onlyN a b c.dx c.dy c.col (c.col + t) := only_mono fun i h1 h2 h3 h4 => by omega
    omega
theorem slk_comm (a b : Bp) (x y : Bg) (h : cmpOk a b) : (slkV b a y x).1 = (slkV a b x y).1 :=
  Int.le_antisymm (slk_turn a b x y h) (slk_turn b a y x ⟨h.2.1, h.1, h.2.2.1.symm, h.2.2.2.symm⟩)
/-- Every component of a budget is at most that of another one. -/
def Bg.le (x y : Bg) : Prop := x.lo ≤ y.lo ∧ x.bl ≤ y.bl ∧ x.sh ≤ y.sh ∧ x.st ≤ y.st
theorem only_self (a : Bp) (fr ti : Int) : onlyN a a 0 0 fr ti = 0 := by
  unfold onlyN
  have e : ∀ j, onB a a 0 0 fr ti j = fun _ => false := fun j => funext fun i => by
    unfold onB
    rw [Int.sub_zero, Int.sub_zero]
    cases hasB a.W a.H a.d i j <;> simp
  have e2 : ∀ n : Nat, cnt (fun _ => false) n = 0 := fun n => by
    unfold cnt
    simp only [Bool.false_eq_true, if_false]
    exact sum_zero n
  simp only [e, e2]
  exact sum_zero _
def sh5z : Bool := (List.range 5).all fun m => decide ((shL m).getD 0 mvZ = (0, 0) ∧ 0 < (shL m).length)
theorem sh5z_ok : sh5z = true := by decide +kernel
theorem cnf_self (a : Bp) (x y : Bg) (h : chk a.W a.H a.n = 0) : cnfV a a x y = (⟨0, 0, -4⟩, true) := by
  obtain ⟨q0, -⟩ := okB h
  have hm := (shN_eq x y).2
  have ht := stN_bd x y q0
  have b1 := lim_bds x
  have b2 := lim_bds y
  have h0 := sh5z_ok
  unfold sh5z at h0
  obtain ⟨g1, g2⟩ := of_decide_eq_true (List.all_eq_true.1 h0 (shN x y) (List.mem_range.2 (by omega)))
  have hc : clK (shL (shN x y)) 0 0 = ⟨0, 0, -4⟩ := by unfold clK; rw [g1]; rfl
  unfold cnfV
  rw [if_pos (show cmpOk a a from ⟨h, h, rfl, rfl⟩)]
  refine cnfR_hit ?_
  rw [← hc]
  refine find_flat (shL (shN x y)) 0 0 g2 (by unfold alM; omega) ?_ (fun _ h => absurd h (Nat.not_lt_zero _)) (fun _ h => absurd h (Nat.not_lt_zero _))
  rw [hc]
  refine decide_eq_true ?_
  unfold xsV ovN
  dsimp only
  rw [Int.neg_zero, only_self, only_self]
  omega
theorem slk_ok (a b : Bp) (x y : Bg) (h : cmpOk a b) : slkV a b x y = ((slkV a b x y).1, true) := by unfold slkV; rw [if_pos h]
end Go.Proofs.Ytijaioiojclooaa
end

section
namespace Go.Proofs.Ytijaioiojclooaa
open Go.RowKit Go.Flow Go.AV Go.Plain
set_option maxHeartbeats 2000000 in
set_option maxRecDepth 100000 in
theorem ApartTurns_A (c : Ca) (hc : c.ok) : ECalls Try.prog 5 [.ag (caC c)] (fun v => v = .c (bC true)) := by
  have hM := made24_A c hc
  have hb := ma_cmp c
  have hb' : cmpOk (maB c) (maA c) := ⟨hb.2.1, hb.1, hb.2.2.1.symm, hb.2.2.2.symm⟩
  generalize maA c = a at *
  generalize maB c = b at *
  generalize maX c = x at *
  generalize maY c = y at *
  have hC1 := Confused_A a b x y
  have hC2 := Confused_A b a y x
  have hC3 := Confused_A a a x y
  have hS1 := Slack_A a b x y
  have hS2 := Slack_A b a y x
  rw [cnf_self a x y hb.1] at hC3
  rw [cnf_slk a b x y hb] at hC1
  rw [cnf_slk b a y x hb', slk_comm a b x y hb] at hC2
  rw [slk_ok a b x y hb] at hS1
  rw [slk_ok b a y x hb', slk_comm a b x y hb] at hS2
  have qc : ∀ w, (Go.binOp .eql 40 _ _).run Try.prog w = .ok (.bool true) w := fun w => (cl_eq snC snC w).trans (by rw [decide_eq_true rfl])
  generalize (slkV a b x y).1 = n at *
  generalize (cnfV a b x y).1 = c1 at *
  generalize (cnfV b a y x).1 = c2 at *
  refine ecalls_at Try.func5 rfl rfl Try.ntmps5 rfl ?_
  by_cases hn : n ≤ 0
  · rw [decide_eq_true hn] at hC1 hC2
    repeat (first
      | refine AWp.seq ?_
      | refine thenA_n ?_
      | refine AWp.ret ?_
      | (refine AWp.region (id := 0) ?_; refine AList.box rfl rfl rfl rfl rfl ?_; refine AList.assign rfl rfl rfl ?_; refine AList.nil ?_)
      | (refine AWp.region (id := 1) ?_; refine AList.call rfl rfl rfl rfl Try.func9 rfl (by kernel_rfl) (sanity24_A) ?_; refine AList.assign rfl rfl rfl ?_; refine AList.nil ?_)
      | (refine AWp.region (id := 2) ?_; refine AList.loadA tyOk rfl rfl rfl rfl rfl rfl rfl oM oM ?_; refine AList.call rfl rfl rfl rfl Try.func10 rfl (by kernel_rfl) (hM) ?_; refine AList.move rfl rfl rfl ?_; refine AList.extract rfl rfl rfl rfl ?_; refine AList.extract rfl rfl rfl rfl ?_; refine AList.extract rfl rfl rfl rfl ?_; refine AList.extract rfl rfl rfl rfl ?_; refine AList.alloc tyOk rfl rfl rfl rfl rfl ?_; refine AList.alloc tyOk rfl rfl rfl rfl rfl ?_; refine AList.alloc tyOk rfl rfl rfl rfl rfl ?_; refine AList.alloc tyOk rfl rfl rfl rfl rfl ?_; refine AList.store tyOk rfl rfl rfl rfl rfl rfl rfl rfl oM oM ?_; refine AList.store tyOk rfl rfl rfl rfl rfl rfl rfl rfl oM oM ?_; refine AList.store tyOk rfl rfl rfl rfl rfl rfl rfl rfl oM oM ?_; refine AList.store tyOk rfl rfl rfl rfl rfl rfl rfl rfl oM oM ?_; refine AList.nil ?_)
      | (refine AWp.region (id := 3) ?_; refine AList.loadA tyOk rfl rfl rfl rfl rfl rfl rfl oM oM ?_; refine AList.loadA tyOk rfl rfl rfl rfl rfl rfl rfl oM oM ?_; refine AList.loadA tyOk rfl rfl rfl rfl rfl rfl rfl oM oM ?_; refine AList.loadA tyOk rfl rfl rfl rfl rfl rfl rfl oM oM ?_; refine AList.call rfl rfl rfl rfl Try.func13 rfl (by kernel_rfl) (hC1) ?_; refine AList.move rfl rfl rfl ?_; refine AList.extract rfl rfl rfl rfl ?_; refine AList.extract rfl rfl rfl rfl ?_; refine AList.alloc tyOk rfl rfl rfl rfl rfl ?_; refine AList.store tyOk rfl rfl rfl rfl rfl rfl rfl rfl oM oM ?_; refine AList.assign rfl rfl rfl ?_; refine AList.nil ?_)
      | (refine AWp.region (id := 4) ?_; refine AList.loadA tyOk rfl rfl rfl rfl rfl rfl rfl oM oM ?_; refine AList.loadA tyOk rfl rfl rfl rfl rfl rfl rfl oM oM ?_; refine AList.loadA tyOk rfl rfl rfl rfl rfl rfl rfl oM oM ?_; refine AList.loadA tyOk rfl rfl rfl rfl rfl rfl rfl oM oM ?_; refine AList.call rfl rfl rfl rfl Try.func13 rfl (by kernel_rfl) (hC2) ?_; refine AList.move rfl rfl rfl ?_; refine AList.extract rfl rfl rfl rfl ?_; refine AList.extract rfl rfl rfl rfl ?_; refine AList.alloc tyOk rfl rfl rfl rfl rfl ?_; refine AList.store tyOk rfl rfl rfl rfl rfl rfl rfl rfl oM oM ?_; refine AList.assign rfl rfl rfl ?_; refine AList.nil ?_)
      | (refine AWp.region (id := 5) ?_; refine AList.loadA tyOk rfl rfl rfl rfl rfl rfl rfl oM oM ?_; refine AList.loadA tyOk rfl rfl rfl rfl rfl rfl rfl oM oM ?_; refine AList.loadA tyOk rfl rfl rfl rfl rfl rfl rfl oM oM ?_; refine AList.loadA tyOk rfl rfl rfl rfl rfl rfl rfl oM oM ?_; refine AList.call rfl rfl rfl rfl Try.func15 rfl (by kernel_rfl) (hS1) ?_; refine AList.move rfl rfl rfl ?_; refine AList.extract rfl rfl rfl rfl ?_; refine AList.extract rfl rfl rfl rfl ?_; refine AList.assign rfl rfl rfl ?_; refine AList.assign rfl rfl rfl ?_; refine AList.nil ?_)
      | (refine AWp.region (id := 6) ?_; refine AList.loadA tyOk rfl rfl rfl rfl rfl rfl rfl oM oM ?_; refine AList.loadA tyOk rfl rfl rfl rfl rfl rfl rfl oM oM ?_; refine AList.loadA tyOk rfl rfl rfl rfl rfl rfl rfl oM oM ?_; refine AList.loadA tyOk rfl rfl rfl rfl rfl rfl rfl oM oM ?_; refine AList.call rfl rfl rfl rfl Try.func15 rfl (by kernel_rfl) (hS2) ?_; refine AList.move rfl rfl rfl ?_; refine AList.extract rfl rfl rfl rfl ?_; refine AList.extract rfl rfl rfl rfl ?_; refine AList.assign rfl rfl rfl ?_; refine AList.assign rfl rfl rfl ?_; refine AList.nil ?_)
      | (refine AWp.region (id := 7) ?_; refine AList.loadA tyOk rfl rfl rfl rfl rfl rfl rfl oM oM ?_; refine AList.loadA tyOk rfl rfl rfl rfl rfl rfl rfl oM oM ?_; refine AList.loadA tyOk rfl rfl rfl rfl rfl rfl rfl oM oM ?_; refine AList.loadA tyOk rfl rfl rfl rfl rfl rfl rfl oM oM ?_; refine AList.call rfl rfl rfl rfl Try.func13 rfl (by kernel_rfl) (hC3) ?_; refine AList.move rfl rfl rfl ?_; refine AList.extract rfl rfl rfl rfl ?_; refine AList.extract rfl rfl rfl rfl ?_; refine AList.alloc tyOk rfl rfl rfl rfl rfl ?_; refine AList.store tyOk rfl rfl rfl rfl rfl rfl rfl rfl oM oM ?_; refine AList.assign rfl rfl rfl ?_; refine AList.nil ?_)
      | (refine AWp.region (id := 8) ?_; refine AList.move rfl rfl rfl ?_; refine AList.move rfl rfl rfl ?_; refine AList.move rfl rfl rfl ?_; refine AList.pickT rfl rfl rfl rfl ?_; refine AList.move rfl rfl rfl ?_; refine AList.move rfl rfl rfl ?_; refine AList.pickT rfl rfl rfl rfl ?_; refine AList.move rfl rfl rfl ?_; refine AList.move rfl rfl rfl ?_; refine AList.move rfl rfl rfl ?_; refine AList.cmpT rfl rfl rfl rfl rfl (by simp only [cmpP, eq_self, decide_true]) ?_; refine AList.pickT rfl rfl rfl rfl ?_; refine AList.move rfl rfl rfl ?_; refine AList.move rfl rfl rfl ?_; refine AList.move rfl rfl rfl ?_; refine AList.eqB rfl rfl rfl rfl (by kernel_rfl) ?_; refine AList.pickT rfl rfl rfl rfl ?_; refine AList.move rfl rfl rfl ?_; refine AList.move rfl rfl rfl ?_; refine AList.move rfl rfl rfl ?_; refine AList.cmpT rfl rfl rfl rfl rfl cmT ?_; refine AList.eqB rfl rfl rfl rfl (by kernel_rfl) ?_; refine AList.pickT rfl rfl rfl rfl ?_; refine AList.move rfl rfl rfl ?_; refine AList.move rfl rfl rfl ?_; refine AList.pickT rfl rfl rfl rfl ?_; refine AList.move rfl rfl rfl ?_; refine AList.loadA tyOk rfl rfl rfl rfl rfl rfl rfl oM oM ?_; refine AList.buildSt tyOk rfl rfl rfl rfl rfl rfl rfl rfl ?_; refine AList.binAg rfl rfl rfl rfl rfl rfl (by kernel_rfl) (qc) ?_; refine AList.pickT rfl rfl rfl rfl ?_; refine AList.assign rfl rfl rfl ?_; refine AList.nil ?_))
    refine ⟨_, rfl, ?_⟩
    refine ⟨mkSt 97 [(2, .c (bC true))] [] [], [], Wk.mk [] rfl rfl rfl ?_ trivial, rfl, rfl, ARets.one (x := .c _) (ARes.tmp rfl rfl)⟩
    repeat (first | exact trivial | refine ⟨⟨_, rfl, by first | exact LeA.c (LeC.refl _ rfl) | exact LeA.c (LeC.ow _ _ rfl) | exact LeA.c (LeC.pt _ _ _ _ _ rfl) | exact LeA.c (LeC.nil _ rfl) | exact LeA.c (LeC.nils _ _) | (refine LeA.int ?_; omega) | (refine LeA.int ?_; dsimp only; omega) | exact LeA.c (LeC.fz rfl rfl (by first | rfl | omega) (fun i _ j _ => ⟨rfl, by first | rfl | exact rowN_imm (fun _ => rfl) _ i j | exact rowF_imm (fun _ => rfl) _ i j⟩))⟩, ?_⟩)
  · rw [decide_eq_false hn] at hC1 hC2
    repeat (first
      | refine AWp.seq ?_
      | refine thenA_n ?_
      | refine AWp.ret ?_
      | (refine AWp.region (id := 0) ?_; refine AList.box rfl rfl rfl rfl rfl ?_; refine AList.assign rfl rfl rfl ?_; refine AList.nil ?_)
      | (refine AWp.region (id := 1) ?_; refine AList.call rfl rfl rfl rfl Try.func9 rfl (by kernel_rfl) (sanity24_A) ?_; refine AList.assign rfl rfl rfl ?_; refine AList.nil ?_)
      | (refine AWp.region (id := 2) ?_; refine AList.loadA tyOk rfl rfl rfl rfl rfl rfl rfl oM oM ?_; refine AList.call rfl rfl rfl rfl Try.func10 rfl (by kernel_rfl) (hM) ?_; refine AList.move rfl rfl rfl ?_; refine AList.extract rfl rfl rfl rfl ?_; refine AList.extract rfl rfl rfl rfl ?_; refine AList.extract rfl rfl rfl rfl ?_; refine AList.extract rfl rfl rfl rfl ?_; refine AList.alloc tyOk rfl rfl rfl rfl rfl ?_; refine AList.alloc tyOk rfl rfl rfl rfl rfl ?_; refine AList.alloc tyOk rfl rfl rfl rfl rfl ?_; refine AList.alloc tyOk rfl rfl rfl rfl rfl ?_; refine AList.store tyOk rfl rfl rfl rfl rfl rfl rfl rfl oM oM ?_; refine AList.store tyOk rfl rfl rfl rfl rfl rfl rfl rfl oM oM ?_; refine AList.store tyOk rfl rfl rfl rfl rfl rfl rfl rfl oM oM ?_; refine AList.store tyOk rfl rfl rfl rfl rfl rfl rfl rfl oM oM ?_; refine AList.nil ?_)
      | (refine AWp.region (id := 3) ?_; refine AList.loadA tyOk rfl rfl rfl rfl rfl rfl rfl oM oM ?_; refine AList.loadA tyOk rfl rfl rfl rfl rfl rfl rfl oM oM ?_; refine AList.loadA tyOk rfl rfl rfl rfl rfl rfl rfl oM oM ?_; refine AList.loadA tyOk rfl rfl rfl rfl rfl rfl rfl oM oM ?_; refine AList.call rfl rfl rfl rfl Try.func13 rfl (by kernel_rfl) (hC1) ?_; refine AList.move rfl rfl rfl ?_; refine AList.extract rfl rfl rfl rfl ?_; refine AList.extract rfl rfl rfl rfl ?_; refine AList.alloc tyOk rfl rfl rfl rfl rfl ?_; refine AList.store tyOk rfl rfl rfl rfl rfl rfl rfl rfl oM oM ?_; refine AList.assign rfl rfl rfl ?_; refine AList.nil ?_)
      | (refine AWp.region (id := 4) ?_; refine AList.loadA tyOk rfl rfl rfl rfl rfl rfl rfl oM oM ?_; refine AList.loadA tyOk rfl rfl rfl rfl rfl rfl rfl oM oM ?_; refine AList.loadA tyOk rfl rfl rfl rfl rfl rfl rfl oM oM ?_; refine AList.loadA tyOk rfl rfl rfl rfl rfl rfl rfl oM oM ?_; refine AList.call rfl rfl rfl rfl Try.func13 rfl (by kernel_rfl) (hC2) ?_; refine AList.move rfl rfl rfl ?_; refine AList.extract rfl rfl rfl rfl ?_; refine AList.extract rfl rfl rfl rfl ?_; refine AList.alloc tyOk rfl rfl rfl rfl rfl ?_; refine AList.store tyOk rfl rfl rfl rfl rfl rfl rfl rfl oM oM ?_; refine AList.assign rfl rfl rfl ?_; refine AList.nil ?_)
      | (refine AWp.region (id := 5) ?_; refine AList.loadA tyOk rfl rfl rfl rfl rfl rfl rfl oM oM ?_; refine AList.loadA tyOk rfl rfl rfl rfl rfl rfl rfl oM oM ?_; refine AList.loadA tyOk rfl rfl rfl rfl rfl rfl rfl oM oM ?_; refine AList.loadA tyOk rfl rfl rfl rfl rfl rfl rfl oM oM ?_; refine AList.call rfl rfl rfl rfl Try.func15 rfl (by kernel_rfl) (hS1) ?_; refine AList.move rfl rfl rfl ?_; refine AList.extract rfl rfl rfl rfl ?_; refine AList.extract rfl rfl rfl rfl ?_; refine AList.assign rfl rfl rfl ?_; refine AList.assign rfl rfl rfl ?_; refine AList.nil ?_)
      | (refine AWp.region (id := 6) ?_; refine AList.loadA tyOk rfl rfl rfl rfl rfl rfl rfl oM oM ?_; refine AList.loadA tyOk rfl rfl rfl rfl rfl rfl rfl oM oM ?_; refine AList.loadA tyOk rfl rfl rfl rfl rfl rfl rfl oM oM ?_; refine AList.loadA tyOk rfl rfl rfl rfl rfl rfl rfl oM oM ?_; refine AList.call rfl rfl rfl rfl Try.func15 rfl (by kernel_rfl) (hS2) ?_; refine AList.move rfl rfl rfl ?_; refine AList.extract rfl rfl rfl rfl ?_; refine AList.extract rfl rfl rfl rfl ?_; refine AList.assign rfl rfl rfl ?_; refine AList.assign rfl rfl rfl ?_; refine AList.nil ?_)
      | (refine AWp.region (id := 7) ?_; refine AList.loadA tyOk rfl rfl rfl rfl rfl rfl rfl oM oM ?_; refine AList.loadA tyOk rfl rfl rfl rfl rfl rfl rfl oM oM ?_; refine AList.loadA tyOk rfl rfl rfl rfl rfl rfl rfl oM oM ?_; refine AList.loadA tyOk rfl rfl rfl rfl rfl rfl rfl oM oM ?_; refine AList.call rfl rfl rfl rfl Try.func13 rfl (by kernel_rfl) (hC3) ?_; refine AList.move rfl rfl rfl ?_; refine AList.extract rfl rfl rfl rfl ?_; refine AList.extract rfl rfl rfl rfl ?_; refine AList.alloc tyOk rfl rfl rfl rfl rfl ?_; refine AList.store tyOk rfl rfl rfl rfl rfl rfl rfl rfl oM oM ?_; refine AList.assign rfl rfl rfl ?_; refine AList.nil ?_)
      | (refine AWp.region (id := 8) ?_; refine AList.move rfl rfl rfl ?_; refine AList.move rfl rfl rfl ?_; refine AList.move rfl rfl rfl ?_; refine AList.pickT rfl rfl rfl rfl ?_; refine AList.move rfl rfl rfl ?_; refine AList.move rfl rfl rfl ?_; refine AList.pickT rfl rfl rfl rfl ?_; refine AList.move rfl rfl rfl ?_; refine AList.move rfl rfl rfl ?_; refine AList.move rfl rfl rfl ?_; refine AList.cmpT rfl rfl rfl rfl rfl (by simp only [cmpP, eq_self, decide_true]) ?_; refine AList.pickT rfl rfl rfl rfl ?_; refine AList.move rfl rfl rfl ?_; refine AList.move rfl rfl rfl ?_; refine AList.move rfl rfl rfl ?_; refine AList.eqB rfl rfl rfl rfl (by kernel_rfl) ?_; refine AList.pickT rfl rfl rfl rfl ?_; refine AList.move rfl rfl rfl ?_; refine AList.move rfl rfl rfl ?_; refine AList.move rfl rfl rfl ?_; refine AList.cmpF rfl rfl rfl rfl rfl cmF ?_; refine AList.eqB rfl rfl rfl rfl (by kernel_rfl) ?_; refine AList.pickT rfl rfl rfl rfl ?_; refine AList.move rfl rfl rfl ?_; refine AList.move rfl rfl rfl ?_; refine AList.pickT rfl rfl rfl rfl ?_; refine AList.move rfl rfl rfl ?_; refine AList.loadA tyOk rfl rfl rfl rfl rfl rfl rfl oM oM ?_; refine AList.buildSt tyOk rfl rfl rfl rfl rfl rfl rfl rfl ?_; refine AList.binAg rfl rfl rfl rfl rfl rfl (by kernel_rfl) (qc) ?_; refine AList.pickT rfl rfl rfl rfl ?_; refine AList.assign rfl rfl rfl ?_; refine AList.nil ?_))
    refine ⟨_, rfl, ?_⟩
    refine ⟨mkSt 97 [(2, .c (bC true))] [] [], [], Wk.mk [] rfl rfl rfl ?_ trivial, rfl, rfl, ARets.one (x := .c _) (ARes.tmp rfl rfl)⟩
    repeat (first | exact trivial | refine ⟨⟨_, rfl, by first | exact LeA.c (LeC.refl _ rfl) | exact LeA.c (LeC.ow _ _ rfl) | exact LeA.c (LeC.pt _ _ _ _ _ rfl) | exact LeA.c (LeC.nil _ rfl) | exact LeA.c (LeC.nils _ _) | (refine LeA.int ?_; omega) | (refine LeA.int ?_; dsimp only; omega) | exact LeA.c (LeC.fz rfl rfl (by first | rfl | omega) (fun i _ j _ => ⟨rfl, by first | rfl | exact rowN_imm (fun _ => rfl) _ i j | exact rowF_imm (fun _ => rfl) _ i j⟩))⟩, ?_⟩)
end Go.Proofs.Ytijaioiojclooaa
end

section
namespace Go.Proofs.Ytijaioiojclooaa.apartTurns
open Go.ChangeShapes Go.WideShapes Go.ChangeAt Go.RowKit Go.Flow Go.AV
set_option maxRecDepth 100000 in
theorem contract (H : Type) (enc : TypeId × Value → H) (W : World) (base : Nat) (args : Array Value) (ds gs : List (DataW H)) (before : List MemPlace)
    (hval : ∀ (j : Nat) t v, Try.f5.params[j]? = some t → args[j]? = some v → Value.okWide Try.prog W .any base t v)
    (hW : DataW.Whole enc Try.prog Try.f5.params.toList Rows.apartTurnsSpec.vars false W args.toList ds gs before)
    (hsz : (DataW.weightsEach Try.prog (Try.f5.params.toList ++ (OpenSpec.ofChange Rows.apartTurnsSpec).bare.plain.varTypes Try.prog) (ds ++ gs)).all (· ≤ reachBytes) = true) :
    Calls Try.prog 5 args W fun e W' => ∃ v, e = .returned v ∧ Rows.apartTurnsSpec.post enc Try.prog Try.f5 false true false false W args v W' := by
  have hW' := hW
  obtain ⟨p, q, hA0, hV, rfl, hfz, hnd⟩ := hW
  have hA : DataW.TrodAll enc Try.prog W 0 (fun _ => true) true Try.f5.params.toList args.toList ds p := hA0
  have hAk := hA0
  rw [Try.params5] at hA hval hsz
  obtain ⟨rfl, rfl⟩ := trodVars_none hV
  obtain ⟨v0, vs0, d0, ds0, p0, q0, hargs, rfl, rfl, h0, t0⟩ := trodAll_cons hA
  obtain ⟨rfl, rfl, rfl⟩ := trodAll_nil t0
  obtain rfl : args = #[v0] := by rw [← Array.toList_inj]; exact hargs
  have hlt := fun x hx => hW'.lt x hx
  simp only [List.append_nil] at hW'
  rw [List.append_nil] at hsz
  obtain ⟨a0, ok0, r0⟩ := opn_ca.argS Try.underlying24 (hval 0 24 v0 rfl rfl) h0 (weigh hsz 0 (t := 24) (d := d0) rfl rfl)
  refine ((ApartTurns_A a0 ok0) O0 W [_] (fun b h => h.elim) ⟨r0, trivial⟩).mono fun e W' ⟨v, r, he, hr, hv, hE⟩ => ?_
  subst hr
  obtain rfl : v = .bool true := hv.2
  subst he
  exact ⟨_, rfl, post_below (pv := []) hW' (fun _ _ _ => trodAll_cons_mk (shut_bool Try.underlying4 _) trodAll_mk0)
    (fun sp hsp => trodAll_below laidOut hE (by rw [Try.params5]; intro t ht; simp only [List.mem_cons, List.not_mem_nil, or_false] at ht; rcases ht with rfl <;> exact ⟨by kernel_rfl, of_decide_eq_true (by kernel_rfl)⟩) hAk (fun x hx => hlt x (by rw [List.append_nil]; exact hx)) sp (fun x hx => hsp x (by simpa only [List.append_nil] using hx)))
    (fun _ _ => rfl) (by simp) hE (ok_one (by kernel_rfl) rfl (okWide_bool_mk Try.underlying4 _))⟩
theorem own : ownKnob Try.prog.godebug = none := by kernel_rfl
set_option maxRecDepth 100000 in
theorem lifted (os : Os) (started : os.Started) (H : Type) (enc : TypeId × Value → H) :
    ReturnsInHanded {} Try.checked os 5 .any (Rows.apartTurnsSpec.pre6 enc Try.prog Try.f5 Rows.apartTurnsRow.domain false) (Rows.apartTurnsSpec.post enc Try.prog Try.f5 false true false false) := by
  refine returnsInHanded_of_change_sized (C := Try.checked) own started (by kernel_rfl) Try.func5
    (ChangeSpec.witness6 (enc := enc) (C := Try.checked) false ⟨#[], #[.agg #[.slice none 0 0, .slice none 0 0, .slice none 0 0, .slice none 0 0, .slice none 0 0, .int .i64 0]], []⟩ 8 (by kernel_rfl) (by kernel_rfl) (by kernel_rfl) (by kernel_rfl)) ?_
  intro W base args ds gs before hval hW _ hsz _
  exact contract H enc W base args ds gs before hval hW hsz
theorem said : Rows.ApartTurnsSaid :=
  OpenClaim.holds_of_wide 5 Try.f5 rfl rfl rfl rfl rfl rfl rfl ⟨rfl, rfl, rfl, rfl, rfl⟩ rfl rfl rfl rfl rfl (by kernel_rfl) Try.func5 (by kernel_rfl)
    (of_decide_eq_true (by kernel_rfl)) (by unfold Func.isWrapper; first | (rw [if_pos (by decide +kernel)]; kernel_rfl) | (rw [if_neg (by decide +kernel)]; exact ⟨rfl, rfl⟩))
    (fun os started H enc _ => lifted os started H enc)
end Go.Proofs.Ytijaioiojclooaa.apartTurns
end
