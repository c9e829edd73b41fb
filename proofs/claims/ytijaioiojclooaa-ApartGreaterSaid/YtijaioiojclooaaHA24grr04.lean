/- ApartGreater: the statement. No condition. -/
import Derived.Test.YtijaioiojclooaaG25
import Derived.Test.YtijaioiojclooaaG24
import Derived.Test.YtijaioiojclooaaG23
import Derived.Test.YtijaioiojclooaaG18
import Derived.Test.YtijaioiojclooaaG04
import Derived.Scope
import Derived.Test.YtijaioiojclooaaG21
import Derived.Test.YtijaioiojclooaaG22
import Derived.Test.YtijaioiojclooaaG09
import Derived.Test.YtijaioiojclooaaHA24grr01
import Derived.Test.YtijaioiojclooaaG03
import Derived.RangeFuncLeaves
import Derived.RangeFuncRecord
import Derived.Shelf.Abstract
import Derived.Test.YtijaioiojclooaaG02
import Derived.Test.YtijaioiojclooaaG08
import Derived.Test.YtijaioiojclooaaG01
import Derived.Test.YtijaioiojclooaaG20
import Derived.Test.YtijaioiojclooaaHA24grr02
import Derived.RangeFuncNested
import Derived.Deep.AppendLies
import Derived.OrdersIn
import Derived.TacticsIn
import Derived.RangeFuncCalls
import Derived.Test.YtijaioiojclooaaG17
import Derived.Maps.AppendAt
import Derived.OwnWalk
import Derived.Test.YtijaioiojclooaaG19
import Derived.Test.YtijaioiojclooaaProg
import Derived.Test.YtijaioiojclooaaG11
import Derived.Laws.Cover3
import Derived.StillTail
import Derived.Below
import Derived.Deep.Draws
import Derived.WalkKit
import Derived.KernelRfl
import Derived.Test.YtijaioiojclooaaG14
import Derived.Test.YtijaioiojclooaaG16
import Derived.Lib.Hide
import Derived.Deep.QuietTactic
import Derived.BigQuiet
import Derived.Deep.DrawnRows
import Derived.Test.YtijaioiojclooaaG07
import Derived.Laws.StructEq
import Derived.Test.YtijaioiojclooaaG13
import Derived.Test.YtijaioiojclooaaG10
import Derived.Test.YtijaioiojclooaaG12
import Derived.Test.YtijaioiojclooaaG06
import Derived.Test.YtijaioiojclooaaG05
import Derived.Great.BuildSlice
import Derived.Test.YtijaioiojclooaaG15
import Derived.Test.YtijaioiojclooaaG32
import Derived.Test.YtijaioiojclooaaG30
import Derived.Test.YtijaioiojclooaaG29
import Derived.Test.YtijaioiojclooaaG26
import Derived.Test.YtijaioiojclooaaG27
import Derived.Test.YtijaioiojclooaaG28
import Derived.Test.YtijaioiojclooaaRows
import Derived.Test.YtijaioiojclooaaG31
import Derived.Test.YtijaioiojclooaaHA24grr03
import Derived.ProofKit
import Derived.OpenShut
import Derived.Deep.DeepHandedRow
import Derived.SizedLaws
import Derived.ChangeSlices
import Derived.Carry
import Derived.ChangeSame
set_option linter.unusedSimpArgs false
set_option linter.unusedVariables false
section
namespace Go.Proofs.Ytijaioiojclooaa
open Go.RowKit Go.Flow Go.AV Go.Plain
theorem lsN_le {f : Cl → Int} {v : Int} : ∀ {L : List Cl} {z : Int}, lsN f L z ≤ v ↔ z ≤ v ∨ ∃ c, c ∈ L ∧ f c ≤ v
  | [], z => ⟨.inl, fun h => h.elim id fun ⟨_, h, _⟩ => by cases h⟩
  | c :: L, z => by
    show lsN f L (min z (f c)) ≤ v ↔ _
    rw [lsN_le]
    constructor
    · rintro (h | ⟨d, h1, h2⟩)
      · by_cases hz : z ≤ v
        · exact .inl hz
        · exact .inr ⟨c, by simp, by omega⟩
      · exact .inr ⟨d, by simp [h1], h2⟩
    · rintro (h | ⟨d, h1, h2⟩)
      · exact .inl (by omega)
      · rcases List.mem_cons.1 h1 with rfl | h1
        · exact .inl (by omega)
        · exact .inr ⟨d, h1, h2⟩
theorem lsN_dom {f g : Cl → Int} {L M : List Cl} {z : Int} (h : ∀ c, c ∈ L → ∃ d, d ∈ M ∧ g d ≤ f c) : lsN g M z ≤ lsN f L z := by
  have h1 : lsN f L z ≤ lsN f L z := Int.le_refl _
  rw [lsN_le] at h1
  rw [lsN_le]
  rcases h1 with h1 | ⟨c, hc, h1⟩
  · exact .inl h1
  · obtain ⟨d, hd, h2⟩ := h c hc
    exact .inr ⟨d, hd, by omega⟩
theorem cnf_slk (a b : Bp) (x y : Bg) (h : cmpOk a b) : (cnfV a b x y).2 = decide ((slkV a b x y).1 ≤ 0) := by
  unfold cnfV slkV
  rw [if_pos h, if_pos h]
  show (cnfR (hitC a b x y) (alL a.W x y)).2 = decide (lsN (xsV a b x y) (alL a.W x y) ((a.n : Int) + 1) ≤ 0)
  unfold cnfR
  cases hf : (alL a.W x y).find? (hitC a b x y) with
  | some c =>
    have h1 := List.find?_some hf
    have h2 := List.mem_of_find?_eq_some hf
    exact (decide_eq_true (lsN_le.2 (.inr ⟨c, h2, of_decide_eq_true h1⟩))).symm
  | none =>
    rw [List.find?_eq_none] at hf
    refine (decide_eq_false fun h => ?_).symm
    rcases lsN_le.1 h with h | ⟨c, hc, h⟩
    · omega
    · exact hf c hc (decide_eq_true h)
def sh5 : Bool := (List.range 5).all fun m => (List.range (2 * m + 1)).all fun i => (List.range (2 * m + 1)).all fun j => decide ((((i : Int) - m, (j : Int) - m) : Int × Int) ∈ shL m)
theorem sh5_ok : sh5 = true := by decide +kernel
theorem sh5_mem {m : Nat} (hm : m ≤ 4) {d : Int × Int} : d ∈ shL m ↔ (-(m : Int) ≤ d.1 ∧ d.1 ≤ m) ∧ -(m : Int) ≤ d.2 ∧ d.2 ≤ m := by
  constructor
  · intro h
    obtain ⟨j, hj, rfl⟩ := List.getElem_of_mem h
    have := sh_bd hj
    rwa [List.getD_eq_getElem?_getD, List.getElem?_eq_getElem hj] at this
  · rintro ⟨⟨h1, h2⟩, h3, h4⟩
    have h := sh5_ok
    unfold sh5 at h
    have h := List.all_eq_true.1 (List.all_eq_true.1 (List.all_eq_true.1 h m (List.mem_range.2 (by omega))) (d.1 + m).toNat (List.mem_range.2 (by omega))) (d.2 + m).toNat (List.mem_range.2 (by omega))
    have h := of_decide_eq_true h
    rwa [show (((d.1 + m).toNat : Nat) : Int) - m = d.1 by omega, show (((d.2 + m).toNat : Nat) : Int) - m = d.2 by omega] at h
theorem al_mem2 {w : Int} {x y : Bg} {c : Cl} (hw : 0 ≤ w) : c ∈ alL w x y ↔ ((-(shN x y : Int) ≤ c.dx ∧ c.dx ≤ shN x y) ∧ -(shN x y : Int) ≤ c.dy ∧ c.dy ≤ shN x y) ∧ -4 ≤ c.col ∧ c.col ≤ w + 4 - stN w x y := by
  rw [mem_al, sh5_mem (shN_eq x y).2]
  have ht := stN_bd x y hw
  have hM : ((alM w x y : Nat) : Int) = w + 9 - stN w x y := by unfold alM; omega
  constructor
  · rintro ⟨h, i, hi, e⟩
    exact ⟨h, by omega, by omega⟩
  · rintro ⟨h, h1, h2⟩
    exact ⟨h, (c.col + 4).toNat, by omega, by omega⟩
/-- Wider strips leave fewer dots. -/
theorem only_mono {a b : Bp} {dx dy fr ti fr' ti' : Int} (h : ∀ i : Int, 0 ≤ i → i < a.W → fr ≤ i → i < ti → fr' ≤ i ∧ i < ti') : onlyN a b dx dy fr' ti' ≤ onlyN a b dx dy fr ti := by
  unfold onlyN
  refine sumTo_le fun j _ => cnt_mono fun i hi h1 => ?_
  unfold onB at h1 ⊢
  simp only [Bool.and_eq_true, Bool.or_eq_true, decide_eq_true_eq] at h1 ⊢
  refine ⟨⟨h1.1.1, ?_⟩, h1.2⟩
  by_cases g1 : (i : Int) < fr
  · exact .inl g1
  · by_cases g2 : ti ≤ (i : Int)
    · exact .inr g2
    · have := h i (by omega) (by omega) (by omega) (by omega)
      rcases h1.1.2 with h3 | h3 <;> omega
/-- Every component of a budget is at most that of another one. -/
def Bg.le (x y : Bg) : Prop := x.lo ≤ y.lo ∧ x.bl ≤ y.bl ∧ x.sh ≤ y.sh ∧ x.st ≤ y.st
theorem slk_more (a b : Bp) (x y v w : Bg) (h : cmpOk a b) (hv : Bg.le x v) (hw : Bg.le y w) : (slkV a b v w).1 ≤ (slkV a b x y).1 := by
  unfold slkV
  rw [if_pos h, if_pos h]
  show lsN (xsV a b v w) (alL a.W v w) ((a.n : Int) + 1) ≤ lsN (xsV a b x y) (alL a.W x y) ((a.n : Int) + 1)
  obtain ⟨ha, hb, hW, hH⟩ := h
  obtain ⟨q0, q1, q2, q3, q4⟩ := okB ha
  obtain ⟨v1, v2, v3, v4⟩ := hv
  obtain ⟨w1, w2, w3, w4⟩ := hw
  refine lsN_dom fun c hc => ?_
  rw [al_mem2 q0] at hc
  have hm := shN_eq x y
  have hm2 := shN_eq v w
  have ht := stN_bd x y q0
  have ht2 := stN_bd v w q0
  have hsh : (lim4 x).sh ≤ (lim4 v).sh ∧ (lim4 y).sh ≤ (lim4 w).sh := by unfold lim4 lim1; dsimp only; omega
  have hst : (lim4 x).st ≤ (lim4 v).st ∧ (lim4 y).st ≤ (lim4 w).st := by unfold lim4 lim1; dsimp only; omega
  have hlo : (lim4 x).lo ≤ (lim4 v).lo ∧ (lim4 y).lo ≤ (lim4 w).lo := by unfold lim4 lim1; dsimp only; omega
  have hbl : (lim4 x).bl ≤ (lim4 v).bl ∧ (lim4 y).bl ≤ (lim4 w).bl := by unfold lim4 lim1; dsimp only; omega
  have htt : stN a.W x y ≤ stN a.W v w := by unfold stN; omega
  obtain ⟨⟨⟨c1, c2⟩, c3, c4⟩, c5, c6⟩ := hc
  obtain ⟨t, htx⟩ : ∃ t, stN a.W x y = t := ⟨_, rfl⟩
  obtain ⟨t', ht'⟩ : ∃ t, stN a.W v w = t := ⟨_, rfl⟩
  rw [htx] at c6 ht htt
  rw [ht'] at ht2 htt
  obtain ⟨e, he⟩ : ∃ e, e = min (a.W + 4 - t') c.col := ⟨_, rfl⟩
  refine ⟨⟨c.dx, c.dy, e⟩, (al_mem2 q0).2 ⟨?_, ?_⟩, ?_⟩
  · dsimp only
    omega
  · rw [ht']
    dsimp only
    omega
  · unfold xsV ovN
    dsimp only
    rw [htx, ht']
    have m1 : onlyN a b c.dx c.dy e (e + t') ≤ onlyN a b c.dx c.dy c.col (c.col + t) := only_mono fun i h1 h2 h3 h4 => by omega
    have m2 : onlyN b a (-c.dx) (-c.dy) (e - c.dx) (e - c.dx + t') ≤ onlyN b a (-c.dx) (-c.dy) (c.col - c.dx) (c.col - c.dx + t) := only_mono fun i h1 h2 h3 h4 => by rw [← hW] at h2; omega
    omega
theorem slk_ok (a b : Bp) (x y : Bg) (h : cmpOk a b) : slkV a b x y = ((slkV a b x y).1, true) := by unfold slkV; rw [if_pos h]
end Go.Proofs.Ytijaioiojclooaa
end

section
namespace Go.Proofs.Ytijaioiojclooaa
open Go.RowKit Go.Flow Go.AV Go.Plain
def u8s (p : Nat → Int) : List CV := [.p (.int .u8 (p 0)), .p (.int .u8 (p 1)), .p (.int .u8 (p 2)), .p (.int .u8 (p 3)), .p (.int .u8 (p 4)), .p (.int .u8 (p 5)), .p (.int .u8 (p 6)), .p (.int .u8 (p 7))]
set_option maxHeartbeats 2000000 in
set_option maxRecDepth 100000 in
theorem ApartGreater_A (c : Ca) (p : Nat → Int) (hc : c.ok) (hp : ∀ k, k < 8 → 0 ≤ p k ∧ p k ≤ 255) : ECalls Try.prog 6 [.ag (caC c), .ag (u8s p)] (fun v => v = .c (bC true)) := by
  have hM := made24_A c hc
  have hb := ma_cmp c
  have hxb := bgN_bd c.nX c.fX
  have hyb := bgN_bd c.nY c.fY
  rw [show bgN c.nX c.fX = maX c from rfl] at hxb
  rw [show bgN c.nY c.fY = maY c from rfl] at hyb
  generalize maA c = a at *
  generalize maB c = b at *
  generalize maX c = x at *
  generalize maY c = y at *
  obtain ⟨z0, hz0⟩ : ∃ z, p 0 % 3 = z := ⟨_, rfl⟩
  have hb0 := hp 0 (by omega)
  have hc0 : 0 ≤ z0 ∧ z0 < 3 := by omega
  have hw0 : IntKind.i64.wrap (p 0 % 3) = z0 := by rw [hz0, IntKind.wrap_i64]; omega
  obtain ⟨z1, hz1⟩ : ∃ z, p 1 % 3 = z := ⟨_, rfl⟩
  have hb1 := hp 1 (by omega)
  have hc1 : 0 ≤ z1 ∧ z1 < 3 := by omega
  have hw1 : IntKind.i64.wrap (p 1 % 3) = z1 := by rw [hz1, IntKind.wrap_i64]; omega
  obtain ⟨z2, hz2⟩ : ∃ z, p 2 % 3 = z := ⟨_, rfl⟩
  have hb2 := hp 2 (by omega)
  have hc2 : 0 ≤ z2 ∧ z2 < 3 := by omega
  have hw2 : IntKind.i64.wrap (p 2 % 3) = z2 := by rw [hz2, IntKind.wrap_i64]; omega
  obtain ⟨z3, hz3⟩ : ∃ z, p 3 % 3 = z := ⟨_, rfl⟩
  have hb3 := hp 3 (by omega)
  have hc3 : 0 ≤ z3 ∧ z3 < 3 := by omega
  have hw3 : IntKind.i64.wrap (p 3 % 3) = z3 := by rw [hz3, IntKind.wrap_i64]; omega
  obtain ⟨z4, hz4⟩ : ∃ z, p 4 % 3 = z := ⟨_, rfl⟩
  have hb4 := hp 4 (by omega)
  have hc4 : 0 ≤ z4 ∧ z4 < 3 := by omega
  have hw4 : IntKind.i64.wrap (p 4 % 3) = z4 := by rw [hz4, IntKind.wrap_i64]; omega
  obtain ⟨z5, hz5⟩ : ∃ z, p 5 % 3 = z := ⟨_, rfl⟩
  have hb5 := hp 5 (by omega)
  have hc5 : 0 ≤ z5 ∧ z5 < 3 := by omega
  have hw5 : IntKind.i64.wrap (p 5 % 3) = z5 := by rw [hz5, IntKind.wrap_i64]; omega
  obtain ⟨z6, hz6⟩ : ∃ z, p 6 % 3 = z := ⟨_, rfl⟩
  have hb6 := hp 6 (by omega)
  have hc6 : 0 ≤ z6 ∧ z6 < 3 := by omega
  have hw6 : IntKind.i64.wrap (p 6 % 3) = z6 := by rw [hz6, IntKind.wrap_i64]; omega
  obtain ⟨z7, hz7⟩ : ∃ z, p 7 % 3 = z := ⟨_, rfl⟩
  have hb7 := hp 7 (by omega)
  have hc7 : 0 ≤ z7 ∧ z7 < 3 := by omega
  have hw7 : IntKind.i64.wrap (p 7 % 3) = z7 := by rw [hz7, IntKind.wrap_i64]; omega
  have hS1 := Slack_A a b x y
  have hS2 := Slack_A a b ⟨x.lo + z0, x.bl + z1, x.sh + z2, x.st + z3⟩ ⟨y.lo + z4, y.bl + z5, y.sh + z6, y.st + z7⟩
  have hC1 := Confused_A a b x y
  have hC2 := Confused_A a b ⟨x.lo + z0, x.bl + z1, x.sh + z2, x.st + z3⟩ ⟨y.lo + z4, y.bl + z5, y.sh + z6, y.st + z7⟩
  have hle := slk_more a b x y ⟨x.lo + z0, x.bl + z1, x.sh + z2, x.st + z3⟩ ⟨y.lo + z4, y.bl + z5, y.sh + z6, y.st + z7⟩ hb (by refine ⟨?_, ?_, ?_, ?_⟩ <;> dsimp only <;> omega) (by refine ⟨?_, ?_, ?_, ?_⟩ <;> dsimp only <;> omega)
  rw [cnf_slk a b _ _ hb] at hC1 hC2
  rw [slk_ok a b _ _ hb] at hS1 hS2
  obtain ⟨n, hn⟩ : ∃ n, (slkV a b x y).1 = n := ⟨_, rfl⟩
  obtain ⟨m, hm⟩ : ∃ m, (slkV a b ⟨x.lo + z0, x.bl + z1, x.sh + z2, x.st + z3⟩ ⟨y.lo + z4, y.bl + z5, y.sh + z6, y.st + z7⟩).1 = m := ⟨_, rfl⟩
  rw [hn] at hS1 hC1 hle
  rw [hm] at hS2 hC2 hle
  generalize (cnfV a b x y).1 = c1 at *
  generalize (cnfV a b ⟨x.lo + z0, x.bl + z1, x.sh + z2, x.st + z3⟩ ⟨y.lo + z4, y.bl + z5, y.sh + z6, y.st + z7⟩).1 = c2 at *
  refine ecalls_at Try.func6 rfl rfl Try.ntmps6 rfl ?_
  by_cases h1 : n ≤ 0
  · have h2 : m ≤ 0 := by omega
    rw [decide_eq_true h1] at hC1
    rw [decide_eq_true h2] at hC2
    repeat (first
      | refine AWp.seq ?_
      | refine thenA_n ?_
      | refine AWp.ret ?_
      | (refine AWp.region (id := 0) ?_; refine AList.box rfl rfl rfl rfl rfl ?_; refine AList.box rfl rfl rfl rfl rfl ?_; refine AList.assign rfl rfl rfl ?_; refine AList.nil ?_)
      | (refine AWp.region (id := 1) ?_; refine AList.call rfl rfl rfl rfl Try.func9 rfl (by kernel_rfl) (sanity24_A) ?_; refine AList.assign rfl rfl rfl ?_; refine AList.nil ?_)
      | (refine AWp.region (id := 2) ?_; refine AList.loadA tyOk rfl rfl rfl rfl rfl rfl rfl oM oM ?_; refine AList.call rfl rfl rfl rfl Try.func10 rfl (by kernel_rfl) (hM) ?_; refine AList.move rfl rfl rfl ?_; refine AList.extract rfl rfl rfl rfl ?_; refine AList.extract rfl rfl rfl rfl ?_; refine AList.extract rfl rfl rfl rfl ?_; refine AList.extract rfl rfl rfl rfl ?_; refine AList.alloc tyOk rfl rfl rfl rfl rfl ?_; refine AList.alloc tyOk rfl rfl rfl rfl rfl ?_; refine AList.alloc tyOk rfl rfl rfl rfl rfl ?_; refine AList.alloc tyOk rfl rfl rfl rfl rfl ?_; refine AList.store tyOk rfl rfl rfl rfl rfl rfl rfl rfl oM oM ?_; refine AList.store tyOk rfl rfl rfl rfl rfl rfl rfl rfl oM oM ?_; refine AList.store tyOk rfl rfl rfl rfl rfl rfl rfl rfl oM oM ?_; refine AList.store tyOk rfl rfl rfl rfl rfl rfl rfl rfl oM oM ?_; refine AList.nil ?_)
      | (refine AWp.draw (id := 3) mixed ?_; refine AList.loadA tyOk rfl rfl rfl rfl rfl rfl rfl oM oM ?_; refine AList.loadA tyOk rfl rfl rfl rfl rfl rfl rfl oM oM ?_; refine AList.alloc tyOk rfl rfl rfl rfl rfl ?_; refine AList.alloc tyOk rfl rfl rfl rfl rfl ?_; refine AList.store tyOk rfl rfl rfl rfl rfl rfl rfl rfl oM oM ?_; refine AList.store tyOk rfl rfl rfl rfl rfl rfl rfl rfl oM oM ?_; refine AList.nil ⟨by kernel_rfl, ?_⟩)
      | (refine AWp.region (id := 4) ?_; refine AList.fieldPt tyOk rfl rfl rfl rfl rfl rfl rfl ?_; refine AList.load1 tyOk rfl rfl rfl rfl rfl rfl rfl oM oM ?_; refine AList.idxArr tyOk rfl rfl rfl rfl rfl rfl rfl rfl oM ?_; refine AList.load1 tyOk rfl rfl rfl rfl rfl rfl rfl oM oM ?_; refine AList.remK rfl rfl rfl rfl (by omega) (by omega) ?_; refine AList.convI (hw0) (by kernel_rfl) Try.underlying3 rfl rfl rfl ?_; refine AList.add rfl rfl rfl rfl (by omega) (by omega) ?_; refine AList.fieldPt tyOk rfl rfl rfl rfl rfl rfl rfl ?_; refine AList.store tyOk rfl rfl rfl rfl rfl rfl rfl rfl oM oM ?_; refine AList.nil ?_)
      | (refine AWp.region (id := 5) ?_; refine AList.fieldPt tyOk rfl rfl rfl rfl rfl rfl rfl ?_; refine AList.load1 tyOk rfl rfl rfl rfl rfl rfl rfl oM oM ?_; refine AList.idxArr tyOk rfl rfl rfl rfl rfl rfl rfl rfl oM ?_; refine AList.load1 tyOk rfl rfl rfl rfl rfl rfl rfl oM oM ?_; refine AList.remK rfl rfl rfl rfl (by omega) (by omega) ?_; refine AList.convI (hw1) (by kernel_rfl) Try.underlying3 rfl rfl rfl ?_; refine AList.add rfl rfl rfl rfl (by omega) (by omega) ?_; refine AList.fieldPt tyOk rfl rfl rfl rfl rfl rfl rfl ?_; refine AList.store tyOk rfl rfl rfl rfl rfl rfl rfl rfl oM oM ?_; refine AList.nil ?_)
      | (refine AWp.region (id := 6) ?_; refine AList.fieldPt tyOk rfl rfl rfl rfl rfl rfl rfl ?_; refine AList.load1 tyOk rfl rfl rfl rfl rfl rfl rfl oM oM ?_; refine AList.idxArr tyOk rfl rfl rfl rfl rfl rfl rfl rfl oM ?_; refine AList.load1 tyOk rfl rfl rfl rfl rfl rfl rfl oM oM ?_; refine AList.remK rfl rfl rfl rfl (by omega) (by omega) ?_; refine AList.convI (hw2) (by kernel_rfl) Try.underlying3 rfl rfl rfl ?_; refine AList.add rfl rfl rfl rfl (by omega) (by omega) ?_; refine AList.fieldPt tyOk rfl rfl rfl rfl rfl rfl rfl ?_; refine AList.store tyOk rfl rfl rfl rfl rfl rfl rfl rfl oM oM ?_; refine AList.nil ?_)
      | (refine AWp.region (id := 7) ?_; refine AList.fieldPt tyOk rfl rfl rfl rfl rfl rfl rfl ?_; refine AList.load1 tyOk rfl rfl rfl rfl rfl rfl rfl oM oM ?_; refine AList.idxArr tyOk rfl rfl rfl rfl rfl rfl rfl rfl oM ?_; refine AList.load1 tyOk rfl rfl rfl rfl rfl rfl rfl oM oM ?_; refine AList.remK rfl rfl rfl rfl (by omega) (by omega) ?_; refine AList.convI (hw3) (by kernel_rfl) Try.underlying3 rfl rfl rfl ?_; refine AList.add rfl rfl rfl rfl (by omega) (by omega) ?_; refine AList.fieldPt tyOk rfl rfl rfl rfl rfl rfl rfl ?_; refine AList.store tyOk rfl rfl rfl rfl rfl rfl rfl rfl oM oM ?_; refine AList.nil ?_)
      | (refine AWp.region (id := 8) ?_; refine AList.fieldPt tyOk rfl rfl rfl rfl rfl rfl rfl ?_; refine AList.load1 tyOk rfl rfl rfl rfl rfl rfl rfl oM oM ?_; refine AList.idxArr tyOk rfl rfl rfl rfl rfl rfl rfl rfl oM ?_; refine AList.load1 tyOk rfl rfl rfl rfl rfl rfl rfl oM oM ?_; refine AList.remK rfl rfl rfl rfl (by omega) (by omega) ?_; refine AList.convI (hw4) (by kernel_rfl) Try.underlying3 rfl rfl rfl ?_; refine AList.add rfl rfl rfl rfl (by omega) (by omega) ?_; refine AList.fieldPt tyOk rfl rfl rfl rfl rfl rfl rfl ?_; refine AList.store tyOk rfl rfl rfl rfl rfl rfl rfl rfl oM oM ?_; refine AList.nil ?_)
      | (refine AWp.region (id := 9) ?_; refine AList.fieldPt tyOk rfl rfl rfl rfl rfl rfl rfl ?_; refine AList.load1 tyOk rfl rfl rfl rfl rfl rfl rfl oM oM ?_; refine AList.idxArr tyOk rfl rfl rfl rfl rfl rfl rfl rfl oM ?_; refine AList.load1 tyOk rfl rfl rfl rfl rfl rfl rfl oM oM ?_; refine AList.remK rfl rfl rfl rfl (by omega) (by omega) ?_; refine AList.convI (hw5) (by kernel_rfl) Try.underlying3 rfl rfl rfl ?_; refine AList.add rfl rfl rfl rfl (by omega) (by omega) ?_; refine AList.fieldPt tyOk rfl rfl rfl rfl rfl rfl rfl ?_; refine AList.store tyOk rfl rfl rfl rfl rfl rfl rfl rfl oM oM ?_; refine AList.nil ?_)
      | (refine AWp.region (id := 10) ?_; refine AList.fieldPt tyOk rfl rfl rfl rfl rfl rfl rfl ?_; refine AList.load1 tyOk rfl rfl rfl rfl rfl rfl rfl oM oM ?_; refine AList.idxArr tyOk rfl rfl rfl rfl rfl rfl rfl rfl oM ?_; refine AList.load1 tyOk rfl rfl rfl rfl rfl rfl rfl oM oM ?_; refine AList.remK rfl rfl rfl rfl (by omega) (by omega) ?_; refine AList.convI (hw6) (by kernel_rfl) Try.underlying3 rfl rfl rfl ?_; refine AList.add rfl rfl rfl rfl (by omega) (by omega) ?_; refine AList.fieldPt tyOk rfl rfl rfl rfl rfl rfl rfl ?_; refine AList.store tyOk rfl rfl rfl rfl rfl rfl rfl rfl oM oM ?_; refine AList.nil ?_)
      | (refine AWp.region (id := 11) ?_; refine AList.fieldPt tyOk rfl rfl rfl rfl rfl rfl rfl ?_; refine AList.load1 tyOk rfl rfl rfl rfl rfl rfl rfl oM oM ?_; refine AList.idxArr tyOk rfl rfl rfl rfl rfl rfl rfl rfl oM ?_; refine AList.load1 tyOk rfl rfl rfl rfl rfl rfl rfl oM oM ?_; refine AList.remK rfl rfl rfl rfl (by omega) (by omega) ?_; refine AList.convI (hw7) (by kernel_rfl) Try.underlying3 rfl rfl rfl ?_; refine AList.add rfl rfl rfl rfl (by omega) (by omega) ?_; refine AList.fieldPt tyOk rfl rfl rfl rfl rfl rfl rfl ?_; refine AList.store tyOk rfl rfl rfl rfl rfl rfl rfl rfl oM oM ?_; refine AList.nil ?_)
      | (refine AWp.region (id := 12) ?_; refine AList.loadA tyOk rfl rfl rfl rfl rfl rfl rfl oM oM ?_; refine AList.loadA tyOk rfl rfl rfl rfl rfl rfl rfl oM oM ?_; refine AList.loadA tyOk rfl rfl rfl rfl rfl rfl rfl oM oM ?_; refine AList.loadA tyOk rfl rfl rfl rfl rfl rfl rfl oM oM ?_; refine AList.call rfl rfl rfl rfl Try.func15 rfl (by kernel_rfl) (hS1) ?_; refine AList.move rfl rfl rfl ?_; refine AList.extract rfl rfl rfl rfl ?_; refine AList.extract rfl rfl rfl rfl ?_; refine AList.assign rfl rfl rfl ?_; refine AList.assign rfl rfl rfl ?_; refine AList.nil ?_)
      | (refine AWp.region (id := 13) ?_; refine AList.loadA tyOk rfl rfl rfl rfl rfl rfl rfl oM oM ?_; refine AList.loadA tyOk rfl rfl rfl rfl rfl rfl rfl oM oM ?_; refine AList.loadA tyOk rfl rfl rfl rfl rfl rfl rfl oM oM ?_; refine AList.loadA tyOk rfl rfl rfl rfl rfl rfl rfl oM oM ?_; refine AList.call rfl rfl rfl rfl Try.func15 rfl (by kernel_rfl) (hS2) ?_; refine AList.move rfl rfl rfl ?_; refine AList.extract rfl rfl rfl rfl ?_; refine AList.extract rfl rfl rfl rfl ?_; refine AList.assign rfl rfl rfl ?_; refine AList.assign rfl rfl rfl ?_; refine AList.nil ?_)
      | (refine AWp.region (id := 14) ?_; refine AList.loadA tyOk rfl rfl rfl rfl rfl rfl rfl oM oM ?_; refine AList.loadA tyOk rfl rfl rfl rfl rfl rfl rfl oM oM ?_; refine AList.loadA tyOk rfl rfl rfl rfl rfl rfl rfl oM oM ?_; refine AList.loadA tyOk rfl rfl rfl rfl rfl rfl rfl oM oM ?_; refine AList.call rfl rfl rfl rfl Try.func13 rfl (by kernel_rfl) (hC1) ?_; refine AList.move rfl rfl rfl ?_; refine AList.extract rfl rfl rfl rfl ?_; refine AList.extract rfl rfl rfl rfl ?_; refine AList.alloc tyOk rfl rfl rfl rfl rfl ?_; refine AList.store tyOk rfl rfl rfl rfl rfl rfl rfl rfl oM oM ?_; refine AList.assign rfl rfl rfl ?_; refine AList.nil ?_)
      | (refine AWp.region (id := 15) ?_; refine AList.loadA tyOk rfl rfl rfl rfl rfl rfl rfl oM oM ?_; refine AList.loadA tyOk rfl rfl rfl rfl rfl rfl rfl oM oM ?_; refine AList.loadA tyOk rfl rfl rfl rfl rfl rfl rfl oM oM ?_; refine AList.loadA tyOk rfl rfl rfl rfl rfl rfl rfl oM oM ?_; refine AList.call rfl rfl rfl rfl Try.func13 rfl (by kernel_rfl) (hC2) ?_; refine AList.move rfl rfl rfl ?_; refine AList.extract rfl rfl rfl rfl ?_; refine AList.extract rfl rfl rfl rfl ?_; refine AList.alloc tyOk rfl rfl rfl rfl rfl ?_; refine AList.store tyOk rfl rfl rfl rfl rfl rfl rfl rfl oM oM ?_; refine AList.assign rfl rfl rfl ?_; refine AList.nil ?_)
      | (refine AWp.region (id := 16) ?_; refine AList.move rfl rfl rfl ?_; refine AList.move rfl rfl rfl ?_; refine AList.move rfl rfl rfl ?_; refine AList.pickT rfl rfl rfl rfl ?_; refine AList.move rfl rfl rfl ?_; refine AList.move rfl rfl rfl ?_; refine AList.pickT rfl rfl rfl rfl ?_; refine AList.move rfl rfl rfl ?_; refine AList.move rfl rfl rfl ?_; refine AList.move rfl rfl rfl ?_; refine AList.cmpT rfl rfl rfl rfl rfl cmT ?_; refine AList.pickT rfl rfl rfl rfl ?_; refine AList.move rfl rfl rfl ?_; refine AList.move rfl rfl rfl ?_; refine AList.notB rfl rfl rfl ?_; refine AList.move rfl rfl rfl ?_; refine AList.move rfl rfl rfl ?_; refine AList.pickF rfl rfl rfl rfl ?_; refine AList.pickT rfl rfl rfl rfl ?_; refine AList.assign rfl rfl rfl ?_; refine AList.nil ?_))
    refine ⟨_, rfl, ?_⟩
    refine ⟨mkSt 145 [(4, .c (bC true))] [] [], [], Wk.mk [] rfl rfl rfl ?_ trivial, rfl, rfl, ARets.one (x := .c _) (ARes.tmp rfl rfl)⟩
    repeat (first | exact trivial | refine ⟨⟨_, rfl, by first | exact LeA.c (LeC.refl _ rfl) | exact LeA.c (LeC.ow _ _ rfl) | exact LeA.c (LeC.pt _ _ _ _ _ rfl) | exact LeA.c (LeC.nil _ rfl) | exact LeA.c (LeC.nils _ _) | (refine LeA.int ?_; omega) | (refine LeA.int ?_; dsimp only; omega) | exact LeA.c (LeC.fz rfl rfl (by first | rfl | omega) (fun i _ j _ => ⟨rfl, by first | rfl | exact rowN_imm (fun _ => rfl) _ i j | exact rowF_imm (fun _ => rfl) _ i j⟩))⟩, ?_⟩)
  · rw [decide_eq_false h1] at hC1
    generalize decide (m ≤ 0) = st at *
    cases st
    all_goals
      repeat (first
        | refine AWp.seq ?_
        | refine thenA_n ?_
        | refine AWp.ret ?_
        | (refine AWp.region (id := 0) ?_; refine AList.box rfl rfl rfl rfl rfl ?_; refine AList.box rfl rfl rfl rfl rfl ?_; refine AList.assign rfl rfl rfl ?_; refine AList.nil ?_)
        | (refine AWp.region (id := 1) ?_; refine AList.call rfl rfl rfl rfl Try.func9 rfl (by kernel_rfl) (sanity24_A) ?_; refine AList.assign rfl rfl rfl ?_; refine AList.nil ?_)
        | (refine AWp.region (id := 2) ?_; refine AList.loadA tyOk rfl rfl rfl rfl rfl rfl rfl oM oM ?_; refine AList.call rfl rfl rfl rfl Try.func10 rfl (by kernel_rfl) (hM) ?_; refine AList.move rfl rfl rfl ?_; refine AList.extract rfl rfl rfl rfl ?_; refine AList.extract rfl rfl rfl rfl ?_; refine AList.extract rfl rfl rfl rfl ?_; refine AList.extract rfl rfl rfl rfl ?_; refine AList.alloc tyOk rfl rfl rfl rfl rfl ?_; refine AList.alloc tyOk rfl rfl rfl rfl rfl ?_; refine AList.alloc tyOk rfl rfl rfl rfl rfl ?_; refine AList.alloc tyOk rfl rfl rfl rfl rfl ?_; refine AList.store tyOk rfl rfl rfl rfl rfl rfl rfl rfl oM oM ?_; refine AList.store tyOk rfl rfl rfl rfl rfl rfl rfl rfl oM oM ?_; refine AList.store tyOk rfl rfl rfl rfl rfl rfl rfl rfl oM oM ?_; refine AList.store tyOk rfl rfl rfl rfl rfl rfl rfl rfl oM oM ?_; refine AList.nil ?_)
        | (refine AWp.draw (id := 3) mixed ?_; refine AList.loadA tyOk rfl rfl rfl rfl rfl rfl rfl oM oM ?_; refine AList.loadA tyOk rfl rfl rfl rfl rfl rfl rfl oM oM ?_; refine AList.alloc tyOk rfl rfl rfl rfl rfl ?_; refine AList.alloc tyOk rfl rfl rfl rfl rfl ?_; refine AList.store tyOk rfl rfl rfl rfl rfl rfl rfl rfl oM oM ?_; refine AList.store tyOk rfl rfl rfl rfl rfl rfl rfl rfl oM oM ?_; refine AList.nil ⟨by kernel_rfl, ?_⟩)
        | (refine AWp.region (id := 4) ?_; refine AList.fieldPt tyOk rfl rfl rfl rfl rfl rfl rfl ?_; refine AList.load1 tyOk rfl rfl rfl rfl rfl rfl rfl oM oM ?_; refine AList.idxArr tyOk rfl rfl rfl rfl rfl rfl rfl rfl oM ?_; refine AList.load1 tyOk rfl rfl rfl rfl rfl rfl rfl oM oM ?_; refine AList.remK rfl rfl rfl rfl (by omega) (by omega) ?_; refine AList.convI (hw0) (by kernel_rfl) Try.underlying3 rfl rfl rfl ?_; refine AList.add rfl rfl rfl rfl (by omega) (by omega) ?_; refine AList.fieldPt tyOk rfl rfl rfl rfl rfl rfl rfl ?_; refine AList.store tyOk rfl rfl rfl rfl rfl rfl rfl rfl oM oM ?_; refine AList.nil ?_)
        | (refine AWp.region (id := 5) ?_; refine AList.fieldPt tyOk rfl rfl rfl rfl rfl rfl rfl ?_; refine AList.load1 tyOk rfl rfl rfl rfl rfl rfl rfl oM oM ?_; refine AList.idxArr tyOk rfl rfl rfl rfl rfl rfl rfl rfl oM ?_; refine AList.load1 tyOk rfl rfl rfl rfl rfl rfl rfl oM oM ?_; refine AList.remK rfl rfl rfl rfl (by omega) (by omega) ?_; refine AList.convI (hw1) (by kernel_rfl) Try.underlying3 rfl rfl rfl ?_; refine AList.add rfl rfl rfl rfl (by omega) (by omega) ?_; refine AList.fieldPt tyOk rfl rfl rfl rfl rfl rfl rfl ?_; refine AList.store tyOk rfl rfl rfl rfl rfl rfl rfl rfl oM oM ?_; refine AList.nil ?_)
        | (refine AWp.region (id := 6) ?_; refine AList.fieldPt tyOk rfl rfl rfl rfl rfl rfl rfl ?_; refine AList.load1 tyOk rfl rfl rfl rfl rfl rfl rfl oM oM ?_; refine AList.idxArr tyOk rfl rfl rfl rfl rfl rfl rfl rfl oM ?_; refine AList.load1 tyOk rfl rfl rfl rfl rfl rfl rfl oM oM ?_; refine AList.remK rfl rfl rfl rfl (by omega) (by omega) ?_; refine AList.convI (hw2) (by kernel_rfl) Try.underlying3 rfl rfl rfl ?_; refine AList.add rfl rfl rfl rfl (by omega) (by omega) ?_; refine AList.fieldPt tyOk rfl rfl rfl rfl rfl rfl rfl ?_; refine AList.store tyOk rfl rfl rfl rfl rfl rfl rfl rfl oM oM ?_; refine AList.nil ?_)
        | (refine AWp.region (id := 7) ?_; refine AList.fieldPt tyOk rfl rfl rfl rfl rfl rfl rfl ?_; refine AList.load1 tyOk rfl rfl rfl rfl rfl rfl rfl oM oM ?_; refine AList.idxArr tyOk rfl rfl rfl rfl rfl rfl rfl rfl oM ?_; refine AList.load1 tyOk rfl rfl rfl rfl rfl rfl rfl oM oM ?_; refine AList.remK rfl rfl rfl rfl (by omega) (by omega) ?_; refine AList.convI (hw3) (by kernel_rfl) Try.underlying3 rfl rfl rfl ?_; refine AList.add rfl rfl rfl rfl (by omega) (by omega) ?_; refine AList.fieldPt tyOk rfl rfl rfl rfl rfl rfl rfl ?_; refine AList.store tyOk rfl rfl rfl rfl rfl rfl rfl rfl oM oM ?_; refine AList.nil ?_)
        | (refine AWp.region (id := 8) ?_; refine AList.fieldPt tyOk rfl rfl rfl rfl rfl rfl rfl ?_; refine AList.load1 tyOk rfl rfl rfl rfl rfl rfl rfl oM oM ?_; refine AList.idxArr tyOk rfl rfl rfl rfl rfl rfl rfl rfl oM ?_; refine AList.load1 tyOk rfl rfl rfl rfl rfl rfl rfl oM oM ?_; refine AList.remK rfl rfl rfl rfl (by omega) (by omega) ?_; refine AList.convI (hw4) (by kernel_rfl) Try.underlying3 rfl rfl rfl ?_; refine AList.add rfl rfl rfl rfl (by omega) (by omega) ?_; refine AList.fieldPt tyOk rfl rfl rfl rfl rfl rfl rfl ?_; refine AList.store tyOk rfl rfl rfl rfl rfl rfl rfl rfl oM oM ?_; refine AList.nil ?_)
        | (refine AWp.region (id := 9) ?_; refine AList.fieldPt tyOk rfl rfl rfl rfl rfl rfl rfl ?_; refine AList.load1 tyOk rfl rfl rfl rfl rfl rfl rfl oM oM ?_; refine AList.idxArr tyOk rfl rfl rfl rfl rfl rfl rfl rfl oM ?_; refine AList.load1 tyOk rfl rfl rfl rfl rfl rfl rfl oM oM ?_; refine AList.remK rfl rfl rfl rfl (by omega) (by omega) ?_; refine AList.convI (hw5) (by kernel_rfl) Try.underlying3 rfl rfl rfl ?_; refine AList.add rfl rfl rfl rfl (by omega) (by omega) ?_; refine AList.fieldPt tyOk rfl rfl rfl rfl rfl rfl rfl ?_; refine AList.store tyOk rfl rfl rfl rfl rfl rfl rfl rfl oM oM ?_; refine AList.nil ?_)
        | (refine AWp.region (id := 10) ?_; refine AList.fieldPt tyOk rfl rfl rfl rfl rfl rfl rfl ?_; refine AList.load1 tyOk rfl rfl rfl rfl rfl rfl rfl oM oM ?_; refine AList.idxArr tyOk rfl rfl rfl rfl rfl rfl rfl rfl oM ?_; refine AList.load1 tyOk rfl rfl rfl rfl rfl rfl rfl oM oM ?_; refine AList.remK rfl rfl rfl rfl (by omega) (by omega) ?_; refine AList.convI (hw6) (by kernel_rfl) Try.underlying3 rfl rfl rfl ?_; refine AList.add rfl rfl rfl rfl (by omega) (by omega) ?_; refine AList.fieldPt tyOk rfl rfl rfl rfl rfl rfl rfl ?_; refine AList.store tyOk rfl rfl rfl rfl rfl rfl rfl rfl oM oM ?_; refine AList.nil ?_)
        | (refine AWp.region (id := 11) ?_; refine AList.fieldPt tyOk rfl rfl rfl rfl rfl rfl rfl ?_; refine AList.load1 tyOk rfl rfl rfl rfl rfl rfl rfl oM oM ?_; refine AList.idxArr tyOk rfl rfl rfl rfl rfl rfl rfl rfl oM ?_; refine AList.load1 tyOk rfl rfl rfl rfl rfl rfl rfl oM oM ?_; refine AList.remK rfl rfl rfl rfl (by omega) (by omega) ?_; refine AList.convI (hw7) (by kernel_rfl) Try.underlying3 rfl rfl rfl ?_; refine AList.add rfl rfl rfl rfl (by omega) (by omega) ?_; refine AList.fieldPt tyOk rfl rfl rfl rfl rfl rfl rfl ?_; refine AList.store tyOk rfl rfl rfl rfl rfl rfl rfl rfl oM oM ?_; refine AList.nil ?_)
        | (refine AWp.region (id := 12) ?_; refine AList.loadA tyOk rfl rfl rfl rfl rfl rfl rfl oM oM ?_; refine AList.loadA tyOk rfl rfl rfl rfl rfl rfl rfl oM oM ?_; refine AList.loadA tyOk rfl rfl rfl rfl rfl rfl rfl oM oM ?_; refine AList.loadA tyOk rfl rfl rfl rfl rfl rfl rfl oM oM ?_; refine AList.call rfl rfl rfl rfl Try.func15 rfl (by kernel_rfl) (hS1) ?_; refine AList.move rfl rfl rfl ?_; refine AList.extract rfl rfl rfl rfl ?_; refine AList.extract rfl rfl rfl rfl ?_; refine AList.assign rfl rfl rfl ?_; refine AList.assign rfl rfl rfl ?_; refine AList.nil ?_)
        | (refine AWp.region (id := 13) ?_; refine AList.loadA tyOk rfl rfl rfl rfl rfl rfl rfl oM oM ?_; refine AList.loadA tyOk rfl rfl rfl rfl rfl rfl rfl oM oM ?_; refine AList.loadA tyOk rfl rfl rfl rfl rfl rfl rfl oM oM ?_; refine AList.loadA tyOk rfl rfl rfl rfl rfl rfl rfl oM oM ?_; refine AList.call rfl rfl rfl rfl Try.func15 rfl (by kernel_rfl) (hS2) ?_; refine AList.move rfl rfl rfl ?_; refine AList.extract rfl rfl rfl rfl ?_; refine AList.extract rfl rfl rfl rfl ?_; refine AList.assign rfl rfl rfl ?_; refine AList.assign rfl rfl rfl ?_; refine AList.nil ?_)
        | (refine AWp.region (id := 14) ?_; refine AList.loadA tyOk rfl rfl rfl rfl rfl rfl rfl oM oM ?_; refine AList.loadA tyOk rfl rfl rfl rfl rfl rfl rfl oM oM ?_; refine AList.loadA tyOk rfl rfl rfl rfl rfl rfl rfl oM oM ?_; refine AList.loadA tyOk rfl rfl rfl rfl rfl rfl rfl oM oM ?_; refine AList.call rfl rfl rfl rfl Try.func13 rfl (by kernel_rfl) (hC1) ?_; refine AList.move rfl rfl rfl ?_; refine AList.extract rfl rfl rfl rfl ?_; refine AList.extract rfl rfl rfl rfl ?_; refine AList.alloc tyOk rfl rfl rfl rfl rfl ?_; refine AList.store tyOk rfl rfl rfl rfl rfl rfl rfl rfl oM oM ?_; refine AList.assign rfl rfl rfl ?_; refine AList.nil ?_)
        | (refine AWp.region (id := 15) ?_; refine AList.loadA tyOk rfl rfl rfl rfl rfl rfl rfl oM oM ?_; refine AList.loadA tyOk rfl rfl rfl rfl rfl rfl rfl oM oM ?_; refine AList.loadA tyOk rfl rfl rfl rfl rfl rfl rfl oM oM ?_; refine AList.loadA tyOk rfl rfl rfl rfl rfl rfl rfl oM oM ?_; refine AList.call rfl rfl rfl rfl Try.func13 rfl (by kernel_rfl) (hC2) ?_; refine AList.move rfl rfl rfl ?_; refine AList.extract rfl rfl rfl rfl ?_; refine AList.extract rfl rfl rfl rfl ?_; refine AList.alloc tyOk rfl rfl rfl rfl rfl ?_; refine AList.store tyOk rfl rfl rfl rfl rfl rfl rfl rfl oM oM ?_; refine AList.assign rfl rfl rfl ?_; refine AList.nil ?_)
        | (refine AWp.region (id := 16) ?_; refine AList.move rfl rfl rfl ?_; refine AList.move rfl rfl rfl ?_; refine AList.move rfl rfl rfl ?_; refine AList.pickT rfl rfl rfl rfl ?_; refine AList.move rfl rfl rfl ?_; refine AList.move rfl rfl rfl ?_; refine AList.pickT rfl rfl rfl rfl ?_; refine AList.move rfl rfl rfl ?_; refine AList.move rfl rfl rfl ?_; refine AList.move rfl rfl rfl ?_; refine AList.cmpT rfl rfl rfl rfl rfl cmT ?_; refine AList.pickT rfl rfl rfl rfl ?_; refine AList.move rfl rfl rfl ?_; refine AList.move rfl rfl rfl ?_; refine AList.notB rfl rfl rfl ?_; refine AList.move rfl rfl rfl ?_; refine AList.skip rfl rfl ?_; refine AList.pickT rfl rfl rfl rfl ?_; refine AList.pickT rfl rfl rfl rfl ?_; refine AList.assign rfl rfl rfl ?_; refine AList.nil ?_))
      refine ⟨_, rfl, ?_⟩
      refine ⟨mkSt 145 [(4, .c (bC true))] [] [], [], Wk.mk [] rfl rfl rfl ?_ trivial, rfl, rfl, ARets.one (x := .c _) (ARes.tmp rfl rfl)⟩
      repeat (first | exact trivial | refine ⟨⟨_, rfl, by first | exact LeA.c (LeC.refl _ rfl) | exact LeA.c (LeC.ow _ _ rfl) | exact LeA.c (LeC.pt _ _ _ _ _ rfl) | exact LeA.c (LeC.nil _ rfl) | exact LeA.c (LeC.nils _ _) | (refine LeA.int ?_; omega) | (refine LeA.int ?_; dsimp only; omega) | exact LeA.c (LeC.fz rfl rfl (by first | rfl | omega) (fun i _ j _ => ⟨rfl, by first | rfl | exact rowN_imm (fun _ => rfl) _ i j | exact rowF_imm (fun _ => rfl) _ i j⟩))⟩, ?_⟩)
end Go.Proofs.Ytijaioiojclooaa
end

section
namespace Go.Proofs.Ytijaioiojclooaa.apartGreater
open Go.ChangeShapes Go.WideShapes Go.ChangeAt Go.RowKit Go.Flow Go.AV
theorem wf_u8 {n : Int} (h : (Lit.int .u8 n).wf = true) : 0 ≤ n ∧ n ≤ 255 := by
  have e1 : IntKind.u8.min = 0 := by decide
  have e2 : IntKind.u8.max = 255 := by decide
  simp [Lit.wf] at h
  omega
section
variable {H : Type} {enc : TypeId × Value → H} {W : World}
theorem opn_u8 : Opn enc Try.prog W 5 (fun i : Int => [.p (.int .u8 i)]) (fun i => 0 ≤ i ∧ i ≤ 255) := (Opn.int Try.underlying5).mono fun _ h => wf_u8 h
theorem opn_by : Opn enc Try.prog W 59 u8s (fun p => ∀ k, k < 8 → 0 ≤ p k ∧ p k ≤ 255) :=
  (opn_u8.array Try.underlying59 (by kernel_rfl : Try.prog.cellsOf 5 = 1) (by kernel_rfl)).conv fun L h => by
    obtain ⟨h1, h2⟩ := h
    obtain ⟨x0, x1, x2, x3, x4, x5, x6, x7, rfl⟩ : ∃ x0 x1 x2 x3 x4 x5 x6 x7, L = [x0, x1, x2, x3, x4, x5, x6, x7] := by
      match L, h1 with
      | [x0, x1, x2, x3, x4, x5, x6, x7], _ => exact ⟨x0, x1, x2, x3, x4, x5, x6, x7, rfl⟩
    refine ⟨fun k => [x0, x1, x2, x3, x4, x5, x6, x7].getD k 0, fun k hk => ?_, fun _ h => h⟩
    dsimp only
    rw [List.getD_eq_getElem?_getD, List.getElem?_eq_getElem (show k < [x0, x1, x2, x3, x4, x5, x6, x7].length from hk)]
    exact h2 _ (List.getElem_mem _)
end
set_option maxRecDepth 100000 in
theorem contract (H : Type) (enc : TypeId × Value → H) (W : World) (base : Nat) (args : Array Value) (ds gs : List (DataW H)) (before : List MemPlace)
    (hval : ∀ (j : Nat) t v, Try.f6.params[j]? = some t → args[j]? = some v → Value.okWide Try.prog W .any base t v)
    (hW : DataW.Whole enc Try.prog Try.f6.params.toList Rows.apartGreaterSpec.vars false W args.toList ds gs before)
    (hsz : (DataW.weightsEach Try.prog (Try.f6.params.toList ++ (OpenSpec.ofChange Rows.apartGreaterSpec).bare.plain.varTypes Try.prog) (ds ++ gs)).all (· ≤ reachBytes) = true) :
    Calls Try.prog 6 args W fun e W' => ∃ v, e = .returned v ∧ Rows.apartGreaterSpec.post enc Try.prog Try.f6 false true false false W args v W' := by
  have hW' := hW
  obtain ⟨p, q, hA0, hV, rfl, hfz, hnd⟩ := hW
  have hA : DataW.TrodAll enc Try.prog W 0 (fun _ => true) true Try.f6.params.toList args.toList ds p := hA0
  have hAk := hA0
  rw [Try.params6] at hA hval hsz
  obtain ⟨rfl, rfl⟩ := trodVars_none hV
  obtain ⟨v0, vs0, d0, ds0, p0, q0, hargs, rfl, rfl, h0, t0⟩ := trodAll_cons hA
  obtain ⟨v1, vs1, d1, ds1, p1, q1, rfl, rfl, rfl, h1, t1⟩ := trodAll_cons t0
  obtain ⟨rfl, rfl, rfl⟩ := trodAll_nil t1
  obtain rfl : args = #[v0, v1] := by rw [← Array.toList_inj]; exact hargs
  have hlt := fun x hx => hW'.lt x hx
  simp only [List.append_nil] at hW'
  rw [List.append_nil] at hsz
  obtain ⟨a0, ok0, r0⟩ := opn_ca.argS Try.underlying24 (hval 0 24 v0 rfl rfl) h0 (weigh hsz 0 (t := 24) (d := d0) rfl rfl)
  obtain ⟨a1, ok1, r1⟩ := opn_by.argA Try.underlying59 (hval 1 59 v1 rfl rfl) h1 (weigh hsz 1 (t := 59) (d := d1) rfl rfl)
  refine ((ApartGreater_A a0 a1 ok0 ok1) O0 W [_, _] (fun b h => h.elim) ⟨r0, r1, trivial⟩).mono fun e W' ⟨v, r, he, hr, hv, hE⟩ => ?_
  subst hr
  obtain rfl : v = .bool true := hv.2
  subst he
  exact ⟨_, rfl, post_below (pv := []) hW' (fun _ _ _ => trodAll_cons_mk (shut_bool Try.underlying4 _) trodAll_mk0)
    (fun sp hsp => trodAll_below laidOut hE (by rw [Try.params6]; intro t ht; simp only [List.mem_cons, List.not_mem_nil, or_false] at ht; rcases ht with rfl | rfl <;> exact ⟨by kernel_rfl, of_decide_eq_true (by kernel_rfl)⟩) hAk (fun x hx => hlt x (by rw [List.append_nil]; exact hx)) sp (fun x hx => hsp x (by simpa only [List.append_nil] using hx)))
    (fun _ _ => rfl) (by simp) hE (ok_one (by kernel_rfl) rfl (okWide_bool_mk Try.underlying4 _))⟩
theorem own : ownKnob Try.prog.godebug = none := by kernel_rfl
set_option maxRecDepth 100000 in
theorem lifted (os : Os) (started : os.Started) (H : Type) (enc : TypeId × Value → H) :
    ReturnsInHanded {} Try.checked os 6 .any (Rows.apartGreaterSpec.pre6 enc Try.prog Try.f6 Rows.apartGreaterRow.domain false) (Rows.apartGreaterSpec.post enc Try.prog Try.f6 false true false false) := by
  refine returnsInHanded_of_change_sized (C := Try.checked) own started (by kernel_rfl) Try.func6
    (ChangeSpec.witness6 (enc := enc) (C := Try.checked) false ⟨#[], #[.agg #[.slice none 0 0, .slice none 0 0, .slice none 0 0, .slice none 0 0, .slice none 0 0, .int .i64 0], .agg #[.int .u8 0, .int .u8 0, .int .u8 0, .int .u8 0, .int .u8 0, .int .u8 0, .int .u8 0, .int .u8 0]], []⟩ 8 (by kernel_rfl) (by kernel_rfl) (by kernel_rfl) (by kernel_rfl)) ?_
  intro W base args ds gs before hval hW _ hsz _
  exact contract H enc W base args ds gs before hval hW hsz
theorem said : Rows.ApartGreaterSaid :=
  OpenClaim.holds_of_wide 6 Try.f6 rfl rfl rfl rfl rfl rfl rfl ⟨rfl, rfl, rfl, rfl, rfl⟩ rfl rfl rfl rfl rfl (by kernel_rfl) Try.func6 (by kernel_rfl)
    (of_decide_eq_true (by kernel_rfl)) (by unfold Func.isWrapper; first | (rw [if_pos (by decide +kernel)]; kernel_rfl) | (rw [if_neg (by decide +kernel)]; exact ⟨rfl, rfl⟩))
    (fun os started H enc _ => lifted os started H enc)
end Go.Proofs.Ytijaioiojclooaa.apartGreater
end
