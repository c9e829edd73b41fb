/- Parts of the proof: ALab, A24q, A24r, A24tp. -/
import Derived.Test.YtfgcogkhnnflcaaDoorG10
import Derived.Test.YtfgcogkhnnflcaaDoorHA26bc02
import Derived.Scope
import Derived.Test.YtfgcogkhnnflcaaDoorG09
import Derived.RangeFuncLeaves
import Derived.RangeFuncRecord
import Derived.Test.YtfgcogkhnnflcaaDoorG08
import Derived.Test.YtfgcogkhnnflcaaDoorG06
import Derived.Test.YtfgcogkhnnflcaaDoorG04
import Derived.Deep.AppendLies
import Derived.Test.YtfgcogkhnnflcaaDoorG01
import Derived.OrdersIn
import Derived.TacticsIn
import Derived.RangeFuncCalls
import Derived.Maps.AppendAt
import Derived.OwnWalk
import Derived.StillTail
import Derived.Below
import Derived.Deep.Draws
import Derived.WalkKit
import Derived.KernelRfl
import Derived.Test.YtfgcogkhnnflcaaDoorG18
import Derived.Test.YtfgcogkhnnflcaaDoorHA26bc15
import Derived.Test.YtfgcogkhnnflcaaDoorHA26bc10
import Derived.Test.YtfgcogkhnnflcaaDoorHA26bc13
import Derived.Test.YtfgcogkhnnflcaaDoorHA26bc14
import Derived.Test.YtfgcogkhnnflcaaDoorG16
import Derived.Test.YtfgcogkhnnflcaaDoorG12
import Derived.Test.YtfgcogkhnnflcaaDoorHA26bc04
import Derived.Shelf.Abstract
import Derived.Test.YtfgcogkhnnflcaaDoorG11
import Derived.Test.YtfgcogkhnnflcaaDoorG17
import Derived.Test.YtfgcogkhnnflcaaDoorHA26bc12
import Derived.RangeFuncNested
import Derived.Test.YtfgcogkhnnflcaaDoorG05
import Derived.Test.YtfgcogkhnnflcaaDoorHA26bc01
import Derived.Test.YtfgcogkhnnflcaaDoorProg
import Derived.Laws.Cover3
import Derived.Test.YtfgcogkhnnflcaaDoorHA26bc09
import Derived.Test.YtfgcogkhnnflcaaDoorG02
import Derived.Test.YtfgcogkhnnflcaaDoorHA26bc08
import Derived.Test.YtfgcogkhnnflcaaDoorHA26bc11
import Derived.Lib.Hide
import Derived.Deep.QuietTactic
import Derived.BigQuiet
import Derived.Deep.DrawnRows
import Derived.Test.YtfgcogkhnnflcaaDoorHA26bc03
import Derived.Laws.StructEq
import Derived.Test.YtfgcogkhnnflcaaDoorHA26bc07
import Derived.Test.YtfgcogkhnnflcaaDoorG14
import Derived.Test.YtfgcogkhnnflcaaDoorHA26bc06
import Derived.Test.YtfgcogkhnnflcaaDoorG13
import Derived.Test.YtfgcogkhnnflcaaDoorHA26bc05
import Derived.Great.BuildSlice
import Derived.Test.YtfgcogkhnnflcaaDoorG15
set_option linter.unusedSimpArgs false
set_option linter.unusedVariables false
section
namespace Go.AV
open Go Go.RowKit Go.Flow
section
variable {F : Fence} {n : Nat} {P : Program} {Q : Exit → Act → World → Prop} {a : Act} {w : World}
theorem stepR_scope' {b : Frame} {k : List Item} {cs : List Frame} {c : Code} : step P (lone (b.atR a (.code (.scope c) :: k)) cs w) = .next (lone (b.atR a (.code c :: .inScope c :: k)) cs w) :=
  step_lone_go (by simp [stepG, stepG.exec, Frame.atR])
theorem stepR_inScope' {b : Frame} {k : List Item} {cs : List Frame} {c : Code} : step P (lone (b.atR a (.inScope c :: k)) cs w) = .next (lone (b.atR a k) cs w) :=
  step_lone_go (by simp [stepG, stepG.exec, Frame.atR])
theorem wpIn_scope' {c : Code} (hg : ∀ l a w, ¬ Q (.goto l) a w) (h : c.wpIn F n P Q a w) : (Code.scope c).wpIn F n P Q a w := by
  intro b k cs hro hb hr
  have h0 : (lone (b.atR a (.code (.scope c) :: k)) cs w).fenced P F := fenced_calm hb hr rfl
  obtain ⟨e, a₁, w₁, hq, harr⟩ := h b (.inScope c :: k) cs hro hb hr
  cases e with
  | normal => exact ⟨.normal, a₁, w₁, hq, .head h0 stepR_scope' (StepsIn.trans harr (.one (fenced_calm hb hr rfl) stepR_inScope'))⟩
  | exit id =>
    have hx : exitTo id (.inScope c :: k) = exitTo id k := by simp [exitTo]
    exact ⟨.exit id, a₁, w₁, hq, .of_steps (.one h0 stepR_scope') (e := .exit id) ⟨fun k' hk => harr.1 k' (by rw [hx]; exact hk), fun hr1 hk => harr.2 hr1 (by rw [hx]; exact hk)⟩⟩
  | goto l => exact (hg l _ _ hq).elim
  | ret => exact ⟨_, a₁, w₁, hq, .of_steps (.one h0 stepR_scope') (e := .ret) harr⟩
  | panic ch => exact ⟨_, a₁, w₁, hq, .of_steps (.one h0 stepR_scope') (e := .panic ch) harr⟩
  | outgrown => exact ⟨_, a₁, w₁, hq, .of_steps (.one h0 stepR_scope') (e := .outgrown) harr⟩
end
section
variable {P : Program} {S : St} {Q : Exit → St → Prop}
theorem AWp.scope {c : Code} (hg : ∀ l S, ¬ Q (.goto l) S) (h : AWp P c Q S) : AWp P (.scope c) Q S := ⟨fun b0 a w hR =>
  wpIn_scope' (fun _ _ _ ⟨_, _, h⟩ => hg _ _ h) (h.get b0 a w hR)⟩
theorem AWp.label {l : Nat} (h : Q .normal S) : AWp P (.label l) Q S := ⟨fun b0 a w hR => wpIn_label ⟨S, hR, h⟩⟩
end
end Go.AV
end

section
namespace Go.Proofs.YtfgcogkhnnflcaaDoor
open Go.RowKit Go.Flow Go.AV Go.Plain
theorem clX_one (a b : Bp) (x y : Bg) (d : Int × Int) (i : Nat) (v : Value) (hv : v ∈ clX a b x y d i) : v.oneCell' = true := by
  rcases List.mem_cons.1 hv with rfl | hv
  · rfl
  · rcases List.mem_cons.1 hv with rfl | hv
    · rfl
    · cases hv
theorem shN_bd {x y : Bg} {k : Nat} (hk : k < (shL (shN x y)).length) : (-4 ≤ ((shL (shN x y)).getD k mvZ).1 ∧ ((shL (shN x y)).getD k mvZ).1 ≤ 4) ∧ -4 ≤ ((shL (shN x y)).getD k mvZ).2 ∧ ((shL (shN x y)).getD k mvZ).2 ≤ 4 := by
  obtain ⟨-, hm⟩ := shN_eq x y
  have := sh_bd hk
  omega
end Go.Proofs.YtfgcogkhnnflcaaDoor
end

section
namespace Go.Proofs.YtfgcogkhnnflcaaDoor
open Go.RowKit Go.Flow Go.AV Go.Plain
def slB (v : Int) : List AB := [⟨false, 1, 1, 3, lF [iC v]⟩]
theorem slB_plain (v : Int) : (slB v).length = [11].length ∧ ∀ B ∈ slB v, PlainB B := ⟨rfl, fun B hB => by
  rcases List.mem_cons.1 hB with rfl | hB
  · exact PlainB.box [.int .i64 v] rfl rfl
  · cases hB⟩
theorem lsN_bd {f : Cl → Int} (hf : ∀ c, -10000 ≤ f c) : ∀ (L : List Cl) (z : Int), -10000 ≤ z → -10000 ≤ lsN f L z ∧ lsN f L z ≤ z
  | [], z, h => ⟨h, Int.le_refl _⟩
  | c :: L, z, h => by
    have h1 := hf c
    have := lsN_bd hf L (min z (f c)) (by omega)
    show -10000 ≤ lsN f L (min z (f c)) ∧ lsN f L (min z (f c)) ≤ z
    omega
set_option maxHeartbeats 2000000 in
set_option maxRecDepth 100000 in
theorem Slack_A (a b : Bp) (x y : Bg) : ACalls Tryd.prog 19 [.ag (bpC a), .ag (bpC b), .ag (bgC x), .ag (bgC y)] (.tu [.c (iC (slkV a b x y).1), .c (bC (slkV a b x y).2)]) := by
  have hAl := alike_A a b
  have hl1 := alim_A x
  have hl2 := alim_A y
  have hSh := aShifts_A x y
  unfold slkV
  by_cases hok : cmpOk a b
  · rw [if_pos hok]
    rw [decide_eq_true hok] at hAl
    have hst : ∀ k, k < (shL (shN x y)).length → _ := fun k hk => strips_any a b x y ((shL (shN x y)).getD k mvZ) hok (shN_bd hk)
    have hfl : alL a.W x y = alK a.W x y ((shL (shN x y)).take (shL (shN x y)).length) := by unfold alL; rw [List.take_length]
    have htake : ∀ k, k < (shL (shN x y)).length → alK a.W x y ((shL (shN x y)).take (k + 1)) = alK a.W x y ((shL (shN x y)).take k) ++ alI 0 ((shL (shN x y)).getD k mvZ) (alM a.W x y) := fun k hk => alK_take a.W x y _ k hk
    rw [hfl]
    have hSl : (shL (shN x y)).length ≤ 81 := by
      obtain ⟨-, hm4⟩ := shN_eq x y
      rw [shL_len hm4]
      have := Nat.mul_le_mul (show 2 * shN x y + 1 ≤ 9 by omega) (show 2 * shN x y + 1 ≤ 9 by omega)
      omega
    have hna : (a.n : Int) ≤ 100000 := by
      obtain ⟨q0, q1, q2, q3, q4⟩ := okB hok.1
      rw [q4]
      have := Int.mul_le_mul q1 q3 q2 (by omega)
      omega
    have hxb : ∀ c, -10000 ≤ xsV a b x y c := fun c => (xsV_bd a b x y c hok).1
    have hxt : ∀ c, xsV a b x y c ≤ 100000 := fun c => by have := (xsV_bd a b x y c hok).2; omega
    generalize shL (shN x y) = S at *
    obtain ⟨M, hM⟩ : ∃ M, alM a.W x y = M := ⟨_, rfl⟩
    rw [hM] at hst htake
    obtain ⟨n, hnl⟩ : ∃ n, S.length = n := ⟨_, rfl⟩
    rw [hnl] at hSh hSl hst htake ⊢
    refine acalls_at Tryd.func19 rfl rfl Tryd.ntmps19 rfl ?_
    repeat (first
      | refine AWp.seq ?_
      | refine thenA_n ?_
      | refine AWp.block ?_
      | refine AWp.skip ?_
      | refine AWp.condF rfl (by first | rfl | assumption | exact cmF) ?_
      | (refine AWp.region (id := 0) ?_; refine AList.box rfl rfl rfl rfl rfl ?_; refine AList.box rfl rfl rfl rfl rfl ?_; refine AList.box rfl rfl rfl rfl rfl ?_; refine AList.box rfl rfl rfl rfl rfl ?_; refine AList.assign rfl rfl rfl ?_; refine AList.assign rfl rfl rfl ?_; refine AList.nil ?_)
      | (refine AWp.region (id := 1) ?_; refine AList.loadA tyOk rfl rfl rfl rfl rfl rfl rfl oM oM ?_; refine AList.loadA tyOk rfl rfl rfl rfl rfl rfl rfl oM oM ?_; refine AList.call rfl rfl rfl rfl Tryd.func37 rfl (by kernel_rfl) (hAl) ?_; refine AList.notB rfl rfl rfl ?_; refine AList.nil ?_)
      | (refine AWp.draw (id := 3) mixed ?_; refine AList.loadA tyOk rfl rfl rfl rfl rfl rfl rfl oM oM ?_; refine AList.loadA tyOk rfl rfl rfl rfl rfl rfl rfl oM oM ?_; refine AList.loadA tyOk rfl rfl rfl rfl rfl rfl rfl oM oM ?_; refine AList.call rfl rfl rfl rfl Tryd.func38 rfl (by kernel_rfl) (hl1) ?_; refine AList.loadA tyOk rfl rfl rfl rfl rfl rfl rfl oM oM ?_; refine AList.call rfl rfl rfl rfl Tryd.func38 rfl (by kernel_rfl) (hl2) ?_; refine AList.buildSt tyOk rfl rfl rfl rfl rfl rfl rfl rfl ?_; refine AList.alloc tyOk rfl rfl rfl rfl rfl ?_; refine AList.store tyOk rfl rfl rfl rfl rfl rfl rfl rfl oM oM ?_; refine AList.nil ⟨by kernel_rfl, ?_⟩)
      | (refine AWp.region (id := 4) ?_; refine AList.fieldPt tyOk rfl rfl rfl rfl rfl rfl rfl ?_; refine AList.load1 tyOk rfl rfl rfl rfl rfl rfl rfl oM oM ?_; refine AList.lenLs tyOk rfl rfl rfl rfl rfl ?_; refine AList.add rfl rfl rfl rfl (by omega) (by omega) ?_; refine AList.alloc tyOk rfl rfl rfl rfl rfl ?_; refine AList.store tyOk rfl rfl rfl rfl rfl rfl rfl rfl oM oM ?_; refine AList.nil ?_)
      | (refine AWp.region (id := 5) ?_; refine AList.loadA tyOk rfl rfl rfl rfl rfl rfl rfl oM oM ?_; refine AList.loadA tyOk rfl rfl rfl rfl rfl rfl rfl oM oM ?_; refine AList.call rfl rfl rfl rfl Tryd.func39 rfl (by kernel_rfl) (hSh) ?_; refine AList.lenLs tyOk rfl rfl rfl rfl rfl ?_; refine AList.move rfl rfl rfl ?_; refine AList.nil ?_))
    refine AWp.round (fun k : Nat => mkSt 49 [(10, .c (.pt 10 14 0 0)), (11, .c (.pt 11 1 0 0)), (33, .c (.ls n 2 (rowF mvC mvZ S))), (34, .c (iC n)), (35, .c (iC k))] [(10, ⟨false, 1, 14, 85, lF (prC a b (lim4 x) (lim4 y))⟩), (11, ⟨false, 1, 1, 3, lF [iC (lsN (xsV a b x y) (alK a.W x y (S.take k)) ((a.n : Int) + 1))]⟩)] [10, 11])
      (fun k => k ≤ n) (fun k => n - k) 0 (Nat.zero_le _) ?_ (fun k hk => ?_)
    · refine Wk.mk [(10, some 10), (11, some 11)] rfl rfl rfl ?_ ?_
      · repeat (first | exact trivial | refine ⟨⟨_, rfl, by first | exact LeA.c (LeC.refl _ rfl) | exact LeA.c (LeC.ow _ _ rfl) | exact LeA.c (LeC.pt _ _ _ _ _ rfl) | exact LeA.c (LeC.nil _ rfl) | exact LeA.c (LeC.nils _ _) | (refine LeA.int ?_; omega) | (refine LeA.int ?_; dsimp only; omega) | exact LeA.c (LeC.fz rfl rfl (by first | rfl | omega) (fun i _ j _ => ⟨rfl, by first | rfl | exact rowN_imm (fun _ => rfl) _ i j | exact rowF_imm (fun _ => rfl) _ i j⟩))⟩, ?_⟩)
      · repeat (first | exact trivial | refine ⟨by first | exact HeapOk.same rfl rfl rfl rfl | exact HeapOk.lent rfl rfl rfl rfl | exact HeapOk.nil rfl rfl | exact HeapOk.row rfl rfl (by first | rfl | omega) (fun i _ j _ => ⟨rfl, by first | rfl | exact rowN_imm (fun _ => rfl) _ i j | exact rowF_imm (fun _ => rfl) _ i j⟩) | exact HeapOk.box rfl rfl (by repeat (first | exact trivial | refine ⟨by first | exact LeC.refl _ rfl | exact LeC.ow _ _ rfl | exact LeC.nil _ rfl | exact LeC.nils _ _ | exact LeC.fz rfl rfl (by first | rfl | omega) (fun i _ j _ => ⟨rfl, by first | rfl | exact rowN_imm (fun _ => rfl) _ i j | exact rowF_imm (fun _ => rfl) _ i j⟩) | exact LeC.int (by omega), ?_⟩)) rfl, ?_⟩)
    · by_cases hkn : k < n
      · obtain ⟨n', c0, c1, t0, t1, hS, hIt⟩ := hst k hkn
        have htk := htake k hkn
        have hvb := lsN_bd hxb (alK a.W x y (S.take k)) ((a.n : Int) + 1) (by omega)
        obtain ⟨v, hv⟩ : ∃ v, lsN (xsV a b x y) (alK a.W x y (S.take k)) ((a.n : Int) + 1) = v := ⟨_, rfl⟩
        rw [hv] at hvb
        rw [hv]
        repeat (first
          | refine AWp.seq ?_
          | refine thenA_n ?_
          | refine AWp.block ?_
          | refine AWp.skip ?_
          | refine AWp.condT rfl (by first | rfl | assumption | exact cmT) ?_
          | (refine AWp.region (id := 6) ?_; refine AList.cmpT rfl rfl rfl rfl rfl cmT ?_; refine AList.nil ?_)
          | (refine AWp.region (id := 7) ?_; refine AList.idx (k := k) tyOk rfl rfl rfl rfl rfl rfl rfl rfl (by first | rfl | omega) oM oM ?_; refine AList.loadAl tyOk rfl rfl rfl rfl rfl oM ?_; refine AList.alloc tyOk rfl rfl rfl rfl rfl ?_; refine AList.store tyOk rfl rfl rfl rfl rfl rfl rfl rfl oM oM ?_; refine AList.nil ?_)
          | (refine AWp.region (id := 8) ?_; refine AList.loadA tyOk rfl rfl rfl rfl rfl rfl rfl oM oM ?_; refine AList.loadA tyOk rfl rfl rfl rfl rfl rfl rfl oM oM ?_; refine AList.call rfl rfl rfl rfl Tryd.func40 rfl (by kernel_rfl) (hS) ?_; refine AList.nil ?_))
        refine AWp.range (N := M) (stop := false) (eS := .ret) (ids := [11]) (bsI := fun i => slB (lsN (xsV a b x y) (alI 0 (S.getD k mvZ) i) v)) (ts := [(11, .c (.pt 1000 1 0 0))]) (ys := stYs a b x y n' c0 c1 t0 t1) (xs := clX a b x y (S.getD k mvZ)) rfl (enters_of Tryd.func56 (by kernel_rfl) rfl) ⟨ViewC.imm _ rfl, ViewC.imm _ rfl, ViewC.imm _ rfl, trivial⟩ rfl hIt (fun _ h => h) (fun h => by cases h) (fun _ => rfl) rfl ?_ (fun i hi => slB_plain _) ?_ rfl (fun i hi => ⟨rfl, clX_one a b x y _ i⟩) (.inl rfl) (fun i hi => ?_) ?_
        · exact LendOk.box rfl rfl rfl trivial
        · repeat (first | exact trivial | refine ⟨⟨_, rfl, by first | exact ViewA.c (ViewC.imm _ rfl) | exact ViewA.c (ViewC.lend _ _ _ _ _ rfl) | exact ViewA.c (ViewC.roBox rfl rfl rfl rfl)⟩, ?_⟩)
        · have hub := lsN_bd hxb (alI 0 (S.getD k mvZ) i) v (by omega)
          have hb1 := hxb ⟨(S.getD k mvZ).1, (S.getD k mvZ).2, (i : Int) - 4⟩
          have hb2 := hxt ⟨(S.getD k mvZ).1, (S.getD k mvZ).2, (i : Int) - 4⟩
          rw [alI_succ, lsN_snoc]
          generalize lsN (xsV a b x y) (alI 0 (S.getD k mvZ) i) v = u at *
          repeat (first
            | refine thenA_n ?_
            | (refine AWp.region (id := 9) ?_; refine AList.assign rfl rfl rfl ?_; refine AList.nil ?_))
          refine ⟨rfl, ?_⟩
          repeat (first
            | refine AWp.block ?_
            | refine inBlk_n ?_
            | (refine AWp.region (id := 10) ?_; refine AList.load1 tyOk rfl rfl rfl rfl rfl rfl rfl oM oM ?_; refine AList.move rfl rfl rfl ?_; refine AList.minI rfl rfl rfl rfl ?_; refine AList.store tyOk rfl rfl rfl rfl rfl rfl rfl rfl oM oM ?_; refine AList.nil ?_))
          refine ⟨rfl, mkG (fun _ => True) 0 true 49 1 [] (lentL 0 (slB (min u (xsV a b x y ⟨(S.getD k mvZ).1, (S.getD k mvZ).2, (i : Int) - 4⟩)))) [], [], Wk.mkG [] rfl rfl rfl rfl rfl trivial ?_, rfl, rfl⟩
          repeat (first | exact trivial | refine ⟨by first | exact HeapOk.same rfl rfl rfl rfl | exact HeapOk.lent rfl rfl rfl rfl | exact HeapOk.nil rfl rfl | exact HeapOk.row rfl rfl (by first | rfl | omega) (fun i _ j _ => ⟨rfl, by first | rfl | exact rowN_imm (fun _ => rfl) _ i j | exact rowF_imm (fun _ => rfl) _ i j⟩) | exact HeapOk.box rfl rfl (by repeat (first | exact trivial | refine ⟨by first | exact LeC.refl _ rfl | exact LeC.ow _ _ rfl | exact LeC.nil _ rfl | exact LeC.nils _ _ | exact LeC.fz rfl rfl (by first | rfl | omega) (fun i _ j _ => ⟨rfl, by first | rfl | exact rowN_imm (fun _ => rfl) _ i j | exact rowF_imm (fun _ => rfl) _ i j⟩) | exact LeC.int (by omega), ?_⟩)) rfl, ?_⟩)
        · repeat (first
            | refine thenA_n ?_
            | refine inBlk_n ?_
            | (refine AWp.region (id := 11) ?_; refine AList.add rfl rfl rfl rfl (by omega) (by omega) ?_; refine AList.move rfl rfl rfl ?_; refine AList.nil ?_))
          refine ⟨k + 1, hkn, Wk.mk [(10, some 10), (11, some 11)] rfl rfl rfl ?_ ?_, by omega⟩
          · repeat (first | exact trivial | refine ⟨⟨_, rfl, by first | exact LeA.c (LeC.refl _ rfl) | exact LeA.c (LeC.ow _ _ rfl) | exact LeA.c (LeC.pt _ _ _ _ _ rfl) | exact LeA.c (LeC.nil _ rfl) | exact LeA.c (LeC.nils _ _) | (refine LeA.int ?_; omega) | (refine LeA.int ?_; dsimp only; omega) | exact LeA.c (LeC.fz rfl rfl (by first | rfl | omega) (fun i _ j _ => ⟨rfl, by first | rfl | exact rowN_imm (fun _ => rfl) _ i j | exact rowF_imm (fun _ => rfl) _ i j⟩))⟩, ?_⟩)
          · rw [htk, lsN_app, hv]
            repeat (first | exact trivial | refine ⟨by first | exact HeapOk.same rfl rfl rfl rfl | exact HeapOk.lent rfl rfl rfl rfl | exact HeapOk.nil rfl rfl | exact HeapOk.row rfl rfl (by first | rfl | omega) (fun i _ j _ => ⟨rfl, by first | rfl | exact rowN_imm (fun _ => rfl) _ i j | exact rowF_imm (fun _ => rfl) _ i j⟩) | exact HeapOk.box rfl rfl (by repeat (first | exact trivial | refine ⟨by first | exact LeC.refl _ rfl | exact LeC.ow _ _ rfl | exact LeC.nil _ rfl | exact LeC.nils _ _ | exact LeC.fz rfl rfl (by first | rfl | omega) (fun i _ j _ => ⟨rfl, by first | rfl | exact rowN_imm (fun _ => rfl) _ i j | exact rowF_imm (fun _ => rfl) _ i j⟩) | exact LeC.int (by omega), ?_⟩)) rfl, ?_⟩)
      · obtain rfl : k = n := by omega
        repeat (first
          | refine AWp.seq ?_
          | refine thenA_n ?_
          | refine AWp.exit ?_
          | refine AWp.ret ?_
          | refine AWp.condF rfl (by first | rfl | assumption | exact cmF) ?_
          | (refine AWp.region (id := 6) ?_; refine AList.cmpF rfl rfl rfl rfl rfl cmF ?_; refine AList.nil ?_)
          | (refine AWp.region (id := 12) ?_; refine AList.load1 tyOk rfl rfl rfl rfl rfl rfl rfl oM oM ?_; refine AList.assign rfl rfl rfl ?_; refine AList.assign rfl rfl rfl ?_; refine AList.nil ?_))
        refine ⟨mkSt 49 [(8, .c (iC (lsN (xsV a b x y) (alK a.W x y (S.take k)) ((a.n : Int) + 1)))), (9, .c (bC true))] [] [], [], Wk.mk [] rfl rfl rfl ?_ trivial, rfl, rfl, ARets.two (x := .c _) (y := .c _) (ARes.tmp rfl rfl) (ARes.tmp rfl rfl)⟩
        repeat (first | exact trivial | refine ⟨⟨_, rfl, by first | exact LeA.c (LeC.refl _ rfl) | exact LeA.c (LeC.ow _ _ rfl) | exact LeA.c (LeC.pt _ _ _ _ _ rfl) | exact LeA.c (LeC.nil _ rfl) | exact LeA.c (LeC.nils _ _) | (refine LeA.int ?_; omega) | (refine LeA.int ?_; dsimp only; omega) | exact LeA.c (LeC.fz rfl rfl (by first | rfl | omega) (fun i _ j _ => ⟨rfl, by first | rfl | exact rowN_imm (fun _ => rfl) _ i j | exact rowF_imm (fun _ => rfl) _ i j⟩))⟩, ?_⟩)
  · rw [if_neg hok]
    rw [decide_eq_false hok] at hAl
    refine acalls_at Tryd.func19 rfl rfl Tryd.ntmps19 rfl ?_
    repeat (first
      | refine AWp.seq ?_
      | refine thenA_n ?_
      | refine AWp.ret ?_
      | refine thenA_r ?_
      | refine AWp.condT rfl (by first | rfl | assumption | exact cmT) ?_
      | (refine AWp.region (id := 0) ?_; refine AList.box rfl rfl rfl rfl rfl ?_; refine AList.box rfl rfl rfl rfl rfl ?_; refine AList.box rfl rfl rfl rfl rfl ?_; refine AList.box rfl rfl rfl rfl rfl ?_; refine AList.assign rfl rfl rfl ?_; refine AList.assign rfl rfl rfl ?_; refine AList.nil ?_)
      | (refine AWp.region (id := 1) ?_; refine AList.loadA tyOk rfl rfl rfl rfl rfl rfl rfl oM oM ?_; refine AList.loadA tyOk rfl rfl rfl rfl rfl rfl rfl oM oM ?_; refine AList.call rfl rfl rfl rfl Tryd.func37 rfl (by kernel_rfl) (hAl) ?_; refine AList.notB rfl rfl rfl ?_; refine AList.nil ?_)
      | (refine AWp.region (id := 2) ?_; refine AList.assign rfl rfl rfl ?_; refine AList.assign rfl rfl rfl ?_; refine AList.nil ?_))
    refine ⟨mkSt 49 [(8, .c (iC 0)), (9, .c (bC false))] [] [], [], Wk.mk [] rfl rfl rfl ?_ trivial, rfl, rfl, ARets.two (x := .c _) (y := .c _) (ARes.tmp rfl rfl) (ARes.tmp rfl rfl)⟩
    repeat (first | exact trivial | refine ⟨⟨_, rfl, by first | exact LeA.c (LeC.refl _ rfl) | exact LeA.c (LeC.ow _ _ rfl) | exact LeA.c (LeC.pt _ _ _ _ _ rfl) | exact LeA.c (LeC.nil _ rfl) | exact LeA.c (LeC.nils _ _) | (refine LeA.int ?_; omega) | (refine LeA.int ?_; dsimp only; omega) | exact LeA.c (LeC.fz rfl rfl (by first | rfl | omega) (fun i _ j _ => ⟨rfl, by first | rfl | exact rowN_imm (fun _ => rfl) _ i j | exact rowF_imm (fun _ => rfl) _ i j⟩))⟩, ?_⟩)
end Go.Proofs.YtfgcogkhnnflcaaDoor
end

section
namespace Go.Proofs.YtfgcogkhnnflcaaDoor
open Go.RowKit Go.Flow Go.AV Go.Plain
theorem slk_ok (a b : Bp) (x y : Bg) (h : cmpOk a b) : slkV a b x y = ((slkV a b x y).1, true) := by unfold slkV; rw [if_pos h]
end Go.Proofs.YtfgcogkhnnflcaaDoor
end
