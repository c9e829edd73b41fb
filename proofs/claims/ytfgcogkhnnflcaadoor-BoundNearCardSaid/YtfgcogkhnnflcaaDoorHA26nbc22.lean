/- Parts of the proof: ACut, A26nb. -/
import Derived.Test.YtfgcogkhnnflcaaDoorG11
import Derived.Test.YtfgcogkhnnflcaaDoorHA26nbc04
import Derived.Test.YtfgcogkhnnflcaaDoorHA26nbc03
import Derived.Laws.StructEq
import Derived.Test.YtfgcogkhnnflcaaDoorG10
import Derived.Test.YtfgcogkhnnflcaaDoorHA26nbc02
import Derived.Great.BuildSlice
import Derived.Test.YtfgcogkhnnflcaaDoorG09
import Derived.RangeFuncLeaves
import Derived.RangeFuncRecord
import Derived.Test.YtfgcogkhnnflcaaDoorG08
import Derived.Test.YtfgcogkhnnflcaaDoorG06
import Derived.Test.YtfgcogkhnnflcaaDoorG04
import Derived.Deep.AppendLies
import Derived.Test.YtfgcogkhnnflcaaDoorG01
import Derived.OrdersIn
import Derived.TacticsIn
import Derived.RangeFuncCalls
import Derived.Maps.AppendAt
import Derived.OwnWalk
import Derived.StillTail
import Derived.Below
import Derived.Deep.Draws
import Derived.WalkKit
import Derived.KernelRfl
import Derived.Test.YtfgcogkhnnflcaaDoorHA26nbc21
import Derived.Test.YtfgcogkhnnflcaaDoorHA26nbc18
import Derived.Test.YtfgcogkhnnflcaaDoorG19
import Derived.Test.YtfgcogkhnnflcaaDoorG02
import Derived.Test.YtfgcogkhnnflcaaDoorG18
import Derived.Test.YtfgcogkhnnflcaaDoorHA26nbc17
import Derived.Test.YtfgcogkhnnflcaaDoorProg
import Derived.Test.YtfgcogkhnnflcaaDoorG05
import Derived.Deep.DeepCutAuto
import Derived.Test.YtfgcogkhnnflcaaDoorG03
import Derived.Test.YtfgcogkhnnflcaaDoorG07
import Derived.Test.YtfgcogkhnnflcaaDoorHA26nbc16
import Derived.Test.YtfgcogkhnnflcaaDoorHA26nbc10
import Derived.Test.YtfgcogkhnnflcaaDoorG16
import Derived.Test.YtfgcogkhnnflcaaDoorHA26nbc01
import Derived.Test.YtfgcogkhnnflcaaDoorG14
import Derived.Test.YtfgcogkhnnflcaaDoorG13
import Derived.Lib.Hide
import Derived.Deep.QuietTactic
import Derived.BigQuiet
import Derived.Deep.DrawnRows
import Derived.Laws.EntriesVeiled
import Derived.Test.YtfgcogkhnnflcaaDoorHA26nbc15
import Derived.Scope
import Derived.Test.YtfgcogkhnnflcaaDoorHA26nbc13
import Derived.Test.YtfgcogkhnnflcaaDoorHA26nbc14
import Derived.Test.YtfgcogkhnnflcaaDoorG12
import Derived.Shelf.Abstract
import Derived.Test.YtfgcogkhnnflcaaDoorG17
import Derived.Test.YtfgcogkhnnflcaaDoorHA26nbc12
import Derived.RangeFuncNested
import Derived.Laws.Cover3
import Derived.Test.YtfgcogkhnnflcaaDoorHA26nbc09
import Derived.Test.YtfgcogkhnnflcaaDoorHA26nbc08
import Derived.Test.YtfgcogkhnnflcaaDoorHA26nbc11
import Derived.Test.YtfgcogkhnnflcaaDoorHA26nbc07
import Derived.Test.YtfgcogkhnnflcaaDoorHA26nbc06
import Derived.Test.YtfgcogkhnnflcaaDoorHA26nbc05
import Derived.Test.YtfgcogkhnnflcaaDoorG15
set_option linter.unusedSimpArgs false
set_option linter.unusedVariables false
section
namespace Go.AV
open Go Go.RowKit Go.Flow
theorem AWp.cut {P : Program} {x : Code} {Q : Exit → St → Prop} {S : St} (S1 : St) (h : AWp P x (fun e S' => e = .normal ∧ Wk S' S1) S) (hz : ∀ S', Wk S' S1 → Q .normal S') : AWp P x Q S :=
  h.mono fun e S' h => by obtain ⟨rfl, hw⟩ := h; exact hz S' hw
end Go.AV
end

section
namespace Go.Proofs.YtfgcogkhnnflcaaDoor
open Go.RowKit Go.Flow Go.AV Go.Plain
def allN (len : Nat → Nat) (f : Nat → Nat → Int) (k : Nat) : List Bp := (List.range k).map fun i => mdV (min (len i) 60) (f i)
def budN (len : Nat → Nat) (f : Nat → Nat → Int) (k : Nat) : List Bg := (List.range k).map fun i => bgN (min (len i) 4) (f i)
theorem allN_succ (len : Nat → Nat) (f : Nat → Nat → Int) (k : Nat) : allN len f (k + 1) = allN len f k ++ [mdV (min (len k) 60) (f k)] := by unfold allN; rw [List.range_succ, List.map_append]; rfl
theorem budN_succ (len : Nat → Nat) (f : Nat → Nat → Int) (k : Nat) : budN len f (k + 1) = budN len f k ++ [bgN (min (len k) 4) (f k)] := by unfold budN; rw [List.range_succ, List.map_append]; rfl
theorem allN_len (len : Nat → Nat) (f : Nat → Nat → Int) (k : Nat) : (allN len f k).length = k := by unfold allN; simp
theorem budN_len (len : Nat → Nat) (f : Nat → Nat → Int) (k : Nat) : (budN len f k).length = k := by unfold budN; simp
theorem bpC_imm (b : Bp) : (bpC b).all immC = true := rfl
theorem bgC_imm (x : Bg) : (bgC x).all immC = true := rfl
/-- Whom Confused confuses is near. -/
theorem conf_near (a b : Bp) (x y : Bg) (h : (cnfV a b x y).2 = true) : cmpOk a b ∧ leL a b x y ≤ 0 := by
  by_cases hok : cmpOk a b
  · refine ⟨hok, ?_⟩
    rw [cnf_slk a b x y hok] at h
    have := le_below a b x y hok
    have := of_decide_eq_true h
    omega
  · unfold cnfV at h
    rw [if_neg hok] at h
    cases h
set_option maxHeartbeats 2000000 in
set_option maxRecDepth 100000 in
theorem BoundNear_W (N : Nat) (len : Nat → Nat) (f : Nat → Nat → Int) (M : Nat) (len2 : Nat → Nat) (g : Nat → Nat → Int) (Nm : Nat) (fm : Nat → Int) (Nl : Nat) (fl : Nat → Int) :
    WCalls Tryd.prog Sides 7 [.c (.ls N 1 (fun k _ => .ls (len k) 1 (iF (f k)))), .c (.ls M 1 (fun k _ => .ls (len2 k) 1 (iF (g k)))), .c (.ls Nm 1 (iF fm)), .c (.ls Nl 1 (iF fl))] (fun r => r = .c (bC true)) := by
  have hC := fun k => cut26_A (len k) (f k)
  have hMd := fun k => Made_A (min (len k) 60) (f k) (by omega)
  have hBd := fun k => Budget0_A (min (len2 k) 4) (g k) (by omega)
  have hCm := cut26_A Nm fm
  have hMm := Made_A (min Nm 60) fm (by omega)
  have hBl := Budget0_A (min Nl 4) fl (by omega)
  obtain ⟨b, hb⟩ : ∃ b, mdV (min Nm 60) fm = b := ⟨_, rfl⟩
  obtain ⟨x, hx⟩ : ∃ x, bgN (min Nl 4) fl = x := ⟨_, rfl⟩
  rw [hb] at hMm
  rw [hx] at hBl
  clear hb hx
  obtain ⟨nl4, hnl4⟩ : ∃ n, min Nl 4 = n := ⟨_, rfl⟩
  have hnl4' : min (Nl : Int) 4 = (nl4 : Int) := by omega
  have hnl4'' : nl4 ≤ Nl := by omega
  rw [hnl4] at hBl
  have hSan := sanity_W
  refine wcalls_at sides_stay Tryd.func7 rfl rfl Tryd.ntmps7 rfl ?_
  repeat (first
    | refine AWp.seq ?_
    | refine thenA_n ?_
    | refine AWp.block ?_
    | (refine AWp.region (id := 0) ?_; refine AList.assign rfl rfl rfl ?_; refine AList.nil ?_)
    | (refine AWp.region (id := 1) ?_; refine AList.callW (fun _ h => h.2) rfl rfl rfl rfl Tryd.func8 rfl (by kernel_rfl) (hSan) ?_; refine AList.assign rfl rfl rfl ?_; refine AList.nil ?_)
    | (refine AWp.region (id := 2) ?_; refine AList.assign rfl rfl rfl ?_; refine AList.nil ?_)
    | (refine AWp.region (id := 3) ?_; refine AList.assign rfl rfl rfl ?_; refine AList.nil ?_)
    | (refine AWp.region (id := 4) ?_; refine AList.assign rfl rfl rfl ?_; refine AList.nil ?_))
  refine AWp.round (fun k : Nat => mkG (GW Sides) 0 false 159 0 [(0, .c (.ls N 1 (fun k _ => .ls (len k) 1 (iF (f k))))), (1, .c (.ls M 1 (fun k _ => .ls (len2 k) 1 (iF (g k))))), (2, .c (.ls Nm 1 (iF fm))), (3, .c (.ls Nl 1 (iF fl))), (9, .c (bC true)), (10, .c (.ow 20)), (11, .c (.p (.slice none 0 0))), (12, .c (iC k))] [(20, ⟨true, (allN len f k).length, 3, 30, rowF bpC bpZ26 (allN len f k)⟩)] [20])
    (fun k => k ≤ min N 5) (fun k => min N 5 - k) 0 (Nat.zero_le _) ?_ (fun k hk => ?_)
  · refine Wk.mkG [(20, none)] rfl rfl rfl rfl rfl ?_ ?_
    · repeat (first | exact trivial | refine ⟨⟨_, rfl, by first | exact LeA.c (LeC.refl _ rfl) | exact LeA.c (LeC.ow _ _ rfl) | exact LeA.c (LeC.pt _ _ _ _ _ rfl) | exact LeA.c (LeC.nil _ rfl) | exact LeA.c (LeC.nils _ _) | (refine LeA.int ?_; omega) | (refine LeA.int ?_; dsimp only; omega) | exact LeA.c (LeC.fz rfl rfl (by first | rfl | omega) (fun i _ j _ => ⟨rfl, by first | rfl | exact rowN_imm (fun _ => rfl) _ i j | exact rowF_imm (fun _ => rfl) _ i j⟩))⟩, ?_⟩)
    · exact ⟨HeapOk.nil rfl rfl, trivial⟩
  · by_cases hkm : k < min N 5
    · have hCk := hC k
      have hMk := hMd k
      have hal := allN_len len f k
      repeat (first
        | refine AWp.seq ?_
        | refine thenA_n ?_
        | refine AWp.block ?_
        | refine AWp.skip ?_
        | refine inBlk_n ?_
        | refine AWp.condT rfl (by first | rfl | assumption | exact cmT) ?_
        | (refine AWp.region (id := 5) ?_; refine AList.move rfl rfl rfl ?_; refine AList.move rfl rfl rfl ?_; refine AList.lenLs tyOk rfl rfl rfl rfl rfl ?_; refine AList.cmpT rfl rfl rfl rfl rfl cmT ?_; refine AList.move rfl rfl rfl ?_; refine AList.move rfl rfl rfl ?_; refine AList.cmpT rfl rfl rfl rfl rfl cmT ?_; refine AList.pickT rfl rfl rfl rfl ?_; refine AList.nil ?_)
        | (refine AWp.region (id := 6) ?_; refine AList.move rfl rfl rfl ?_; refine AList.add rfl rfl rfl rfl (by omega) (by omega) ?_; refine AList.assign rfl rfl rfl ?_; refine AList.nil ?_)
        | (refine AWp.region (id := 7) ?_; refine AList.move rfl rfl rfl ?_; refine AList.move rfl rfl rfl ?_; refine AList.move rfl rfl rfl ?_; refine AList.idx (k := k) tyOk rfl rfl rfl rfl rfl rfl rfl rfl (by first | rfl | omega) oM oM ?_; refine AList.load1l tyOk rfl rfl rfl rfl rfl oM ?_; refine AList.call rfl rfl rfl rfl Tryd.func10 rfl (by kernel_rfl) (hCk) ?_; refine AList.call rfl rfl rfl rfl Tryd.func9 rfl (by kernel_rfl) (hMk) ?_; refine AList.litSl tyOk rfl rfl rfl rfl rfl rfl rfl rfl rfl rfl rfl ?_; refine AList.appL tyOk rfl rfl rfl rfl rfl rfl rfl rfl rfl rfl oM oM ?_; refine AList.assign rfl rfl rfl ?_; refine AList.nil ?_))
      refine ⟨k + 1, hkm, Wk.mkG [(20, some 43)] rfl rfl rfl rfl rfl ?_ ?_, by omega⟩
      · repeat (first | exact trivial | refine ⟨⟨_, rfl, by first | exact LeA.c (LeC.refl _ rfl) | exact LeA.c (LeC.ow _ _ rfl) | exact LeA.c (LeC.pt _ _ _ _ _ rfl) | exact LeA.c (LeC.nil _ rfl) | exact LeA.c (LeC.nils _ _) | (refine LeA.int ?_; omega) | (refine LeA.int ?_; dsimp only; omega) | exact LeA.c (LeC.fz rfl rfl (by first | rfl | omega) (fun i _ j _ => ⟨rfl, by first | rfl | exact rowN_imm (fun _ => rfl) _ i j | exact rowF_imm (fun _ => rfl) _ i j⟩))⟩, ?_⟩)
      · rw [allN_succ]
        exact ⟨HeapOk.row rfl rfl (by simp) (row_snoc (allN len f k) (mdV (min (len k) 60) (f k)) bpC_imm rfl), trivial⟩
    · obtain rfl : k = min N 5 := by omega
      obtain ⟨n1, hn1⟩ : ∃ n, min N 5 = n := ⟨_, rfl⟩
      have hn1' : n1 ≤ 5 ∧ (n1 < N → n1 = 5) ∧ n1 ≤ N := by omega
      rw [hn1]
      obtain ⟨L, hL⟩ : ∃ L, allN len f n1 = L := ⟨_, rfl⟩
      have hLn : L.length = n1 := by rw [← hL]; exact allN_len len f n1
      rw [hL]
      repeat (first
        | refine AWp.seq ?_)
      refine AWp.cut (mkG (GW Sides) 0 false 159 0 [(1, .c (.ls M 1 (fun k _ => .ls (len2 k) 1 (iF (g k))))), (2, .c (.ls Nm 1 (iF fm))), (3, .c (.ls Nl 1 (iF fl))), (9, .c (bC true)), (10, .c (.ow 20)), (11, .c (.p (.slice none 0 0))), (32, .c (bC false))] [(20, ⟨true, L.length, 3, 30, rowF bpC bpZ26 L⟩)] [20]) ?_ (fun S2 hw2 => AWp.weak hw2 ?_)
      · by_cases h1 : n1 < N
        · have h2 : ¬ n1 < 5 := by omega
          repeat (first
            | (refine AWp.region (id := 5) ?_; refine AList.move rfl rfl rfl ?_; refine AList.move rfl rfl rfl ?_; refine AList.lenLs tyOk rfl rfl rfl rfl rfl ?_; refine AList.cmpT rfl rfl rfl rfl rfl cmT ?_; refine AList.move rfl rfl rfl ?_; refine AList.move rfl rfl rfl ?_; refine AList.cmpF rfl rfl rfl rfl rfl cmF ?_; refine AList.pickT rfl rfl rfl rfl ?_; refine AList.nil ?_))
          refine ⟨rfl, Wk.mkG [(20, some 20)] rfl rfl rfl rfl rfl ?_ ?_⟩
          · repeat (first | exact trivial | refine ⟨⟨_, rfl, by first | exact LeA.c (LeC.refl _ rfl) | exact LeA.c (LeC.ow _ _ rfl) | exact LeA.c (LeC.pt _ _ _ _ _ rfl) | exact LeA.c (LeC.nil _ rfl) | exact LeA.c (LeC.nils _ _) | (refine LeA.int ?_; omega) | (refine LeA.int ?_; dsimp only; omega) | exact LeA.c (LeC.fz rfl rfl (by first | rfl | omega) (fun i _ j _ => ⟨rfl, by first | rfl | exact rowN_imm (fun _ => rfl) _ i j | exact rowF_imm (fun _ => rfl) _ i j⟩))⟩, ?_⟩)
          · repeat (first | exact trivial | refine ⟨by first | exact HeapOk.same rfl rfl rfl rfl | exact HeapOk.lent rfl rfl rfl rfl | exact HeapOk.nil rfl rfl | exact HeapOk.row rfl rfl (by first | rfl | omega) (fun i _ j _ => ⟨rfl, by first | rfl | exact rowN_imm (fun _ => rfl) _ i j | exact rowF_imm (fun _ => rfl) _ i j⟩) | exact HeapOk.box rfl rfl (by repeat (first | exact trivial | refine ⟨by first | exact LeC.refl _ rfl | exact LeC.ow _ _ rfl | exact LeC.nil _ rfl | exact LeC.nils _ _ | exact LeC.fz rfl rfl (by first | rfl | omega) (fun i _ j _ => ⟨rfl, by first | rfl | exact rowN_imm (fun _ => rfl) _ i j | exact rowF_imm (fun _ => rfl) _ i j⟩) | exact LeC.int (by omega), ?_⟩)) rfl, ?_⟩)
        · repeat (first
            | (refine AWp.region (id := 5) ?_; refine AList.move rfl rfl rfl ?_; refine AList.move rfl rfl rfl ?_; refine AList.lenLs tyOk rfl rfl rfl rfl rfl ?_; refine AList.cmpF rfl rfl rfl rfl rfl cmF ?_; refine AList.move rfl rfl rfl ?_; refine AList.skip rfl rfl ?_; refine AList.skip rfl rfl ?_; refine AList.pickF rfl rfl rfl rfl ?_; refine AList.nil ?_))
          refine ⟨rfl, Wk.mkG [(20, some 20)] rfl rfl rfl rfl rfl ?_ ?_⟩
          · repeat (first | exact trivial | refine ⟨⟨_, rfl, by first | exact LeA.c (LeC.refl _ rfl) | exact LeA.c (LeC.ow _ _ rfl) | exact LeA.c (LeC.pt _ _ _ _ _ rfl) | exact LeA.c (LeC.nil _ rfl) | exact LeA.c (LeC.nils _ _) | (refine LeA.int ?_; omega) | (refine LeA.int ?_; dsimp only; omega) | exact LeA.c (LeC.fz rfl rfl (by first | rfl | omega) (fun i _ j _ => ⟨rfl, by first | rfl | exact rowN_imm (fun _ => rfl) _ i j | exact rowF_imm (fun _ => rfl) _ i j⟩))⟩, ?_⟩)
          · repeat (first | exact trivial | refine ⟨by first | exact HeapOk.same rfl rfl rfl rfl | exact HeapOk.lent rfl rfl rfl rfl | exact HeapOk.nil rfl rfl | exact HeapOk.row rfl rfl (by first | rfl | omega) (fun i _ j _ => ⟨rfl, by first | rfl | exact rowN_imm (fun _ => rfl) _ i j | exact rowF_imm (fun _ => rfl) _ i j⟩) | exact HeapOk.box rfl rfl (by repeat (first | exact trivial | refine ⟨by first | exact LeC.refl _ rfl | exact LeC.ow _ _ rfl | exact LeC.nil _ rfl | exact LeC.nils _ _ | exact LeC.fz rfl rfl (by first | rfl | omega) (fun i _ j _ => ⟨rfl, by first | rfl | exact rowN_imm (fun _ => rfl) _ i j | exact rowF_imm (fun _ => rfl) _ i j⟩) | exact LeC.int (by omega), ?_⟩)) rfl, ?_⟩)
      repeat (first
        | refine AWp.seq ?_
        | refine thenA_n ?_
        | refine AWp.block ?_
        | refine AWp.exit ?_
        | refine AWp.condF rfl (by first | rfl | assumption | exact cmF) ?_
        | (refine AWp.region (id := 8) ?_; refine AList.assign rfl rfl rfl ?_; refine AList.nil ?_))
      refine AWp.round (fun k : Nat => mkG (GW Sides) 0 false 159 0 [(1, .c (.ls M 1 (fun k _ => .ls (len2 k) 1 (iF (g k))))), (2, .c (.ls Nm 1 (iF fm))), (3, .c (.ls Nl 1 (iF fl))), (9, .c (bC true)), (10, .c (.ow 20)), (11, .c (.ow 21)), (13, .c (iC k))] [(20, ⟨true, L.length, 3, 30, rowF bpC bpZ26 L⟩), (21, ⟨true, (budN len2 g k).length, 4, 25, rowF bgC bgZ (budN len2 g k)⟩)] [20, 21])
        (fun k => k ≤ min M 5) (fun k => min M 5 - k) 0 (Nat.zero_le _) ?_ (fun k hk => ?_)
      · refine Wk.mkG [(20, some 20), (21, none)] rfl rfl rfl rfl rfl ?_ ?_
        · repeat (first | exact trivial | refine ⟨⟨_, rfl, by first | exact LeA.c (LeC.refl _ rfl) | exact LeA.c (LeC.ow _ _ rfl) | exact LeA.c (LeC.pt _ _ _ _ _ rfl) | exact LeA.c (LeC.nil _ rfl) | exact LeA.c (LeC.nils _ _) | (refine LeA.int ?_; omega) | (refine LeA.int ?_; dsimp only; omega) | exact LeA.c (LeC.fz rfl rfl (by first | rfl | omega) (fun i _ j _ => ⟨rfl, by first | rfl | exact rowN_imm (fun _ => rfl) _ i j | exact rowF_imm (fun _ => rfl) _ i j⟩))⟩, ?_⟩)
        · exact ⟨HeapOk.row rfl rfl rfl (fun i _ j _ => ⟨rfl, rowF_imm bpC_imm _ i j⟩), HeapOk.nil rfl rfl, trivial⟩
      · by_cases hkm : k < min M 5
        · have hBk := hBd k
          have hal := budN_len len2 g k
          have e4 : min (len2 k : Int) 4 = ((min (len2 k) 4 : Nat) : Int) := by omega
          have e5 : min (len2 k) 4 ≤ len2 k := by omega
          have hsu := budN_succ len2 g k
          generalize min (len2 k) 4 = q at *
          repeat (first
            | refine AWp.seq ?_
            | refine thenA_n ?_
            | refine AWp.block ?_
            | refine AWp.skip ?_
            | refine inBlk_n ?_
            | refine AWp.condT rfl (by first | rfl | assumption | exact cmT) ?_
            | (refine AWp.region (id := 9) ?_; refine AList.move rfl rfl rfl ?_; refine AList.move rfl rfl rfl ?_; refine AList.lenLs tyOk rfl rfl rfl rfl rfl ?_; refine AList.cmpT rfl rfl rfl rfl rfl cmT ?_; refine AList.move rfl rfl rfl ?_; refine AList.move rfl rfl rfl ?_; refine AList.cmpT rfl rfl rfl rfl rfl cmT ?_; refine AList.pickT rfl rfl rfl rfl ?_; refine AList.nil ?_)
            | (refine AWp.region (id := 10) ?_; refine AList.move rfl rfl rfl ?_; refine AList.add rfl rfl rfl rfl (by omega) (by omega) ?_; refine AList.assign rfl rfl rfl ?_; refine AList.nil ?_)
            | (refine AWp.draw (id := 11) mixed ?_; refine AList.move rfl rfl rfl ?_; refine AList.move rfl rfl rfl ?_; refine AList.move rfl rfl rfl ?_; refine AList.idx (k := k) tyOk rfl rfl rfl rfl rfl rfl rfl rfl (by first | rfl | omega) oM oM ?_; refine AList.load1l tyOk rfl rfl rfl rfl rfl oM ?_; refine AList.move rfl rfl rfl ?_; refine AList.move rfl rfl rfl ?_; refine AList.idx (k := k) tyOk rfl rfl rfl rfl rfl rfl rfl rfl (by first | rfl | omega) oM oM ?_; refine AList.load1l tyOk rfl rfl rfl rfl rfl oM ?_; refine AList.lenLs tyOk rfl rfl rfl rfl rfl ?_; refine AList.minI rfl rfl rfl rfl ?_; refine AList.cut (l := 0) (h := q) tyOk rfl rfl rfl rfl rfl rfl rfl rfl ⟨_, _, rfl, by first | rfl | omega⟩ (by omega) (by omega) ?_; refine AList.call rfl rfl rfl rfl Tryd.func20 rfl (by kernel_rfl) (hBk) ?_; refine AList.litSl tyOk rfl rfl rfl rfl rfl rfl rfl rfl rfl rfl rfl ?_; refine AList.appL tyOk rfl rfl rfl rfl rfl rfl rfl rfl rfl rfl oM oM ?_; refine AList.assign rfl rfl rfl ?_; refine AList.nil ⟨by kernel_rfl, ?_⟩))
          refine ⟨k + 1, hkm, Wk.mkG [(20, some 20), (21, some 68)] rfl rfl rfl rfl rfl ?_ ?_, by omega⟩
          · repeat (first | exact trivial | refine ⟨⟨_, rfl, by first | exact LeA.c (LeC.refl _ rfl) | exact LeA.c (LeC.ow _ _ rfl) | exact LeA.c (LeC.pt _ _ _ _ _ rfl) | exact LeA.c (LeC.nil _ rfl) | exact LeA.c (LeC.nils _ _) | (refine LeA.int ?_; omega) | (refine LeA.int ?_; dsimp only; omega) | exact LeA.c (LeC.fz rfl rfl (by first | rfl | omega) (fun i _ j _ => ⟨rfl, by first | rfl | exact rowN_imm (fun _ => rfl) _ i j | exact rowF_imm (fun _ => rfl) _ i j⟩))⟩, ?_⟩)
          · rw [hsu]
            exact ⟨HeapOk.row rfl rfl rfl (fun i _ j _ => ⟨rfl, rowF_imm bpC_imm _ i j⟩), HeapOk.row rfl rfl (by simp) (row_snoc (budN len2 g k) (bgN q (g k)) bgC_imm rfl), trivial⟩
        · obtain rfl : k = min M 5 := by omega
          obtain ⟨n2, hn2⟩ : ∃ n, min M 5 = n := ⟨_, rfl⟩
          have hn2' : n2 ≤ 5 ∧ (n2 < M → n2 = 5) ∧ n2 ≤ M := by omega
          rw [hn2]
          obtain ⟨Y, hY⟩ : ∃ Y, budN len2 g n2 = Y := ⟨_, rfl⟩
          have hYn : Y.length = n2 := by rw [← hY]; exact budN_len len2 g n2
          rw [hY]
          repeat (first
            | refine AWp.seq ?_)
          refine AWp.cut (mkG (GW Sides) 0 false 159 0 [(2, .c (.ls Nm 1 (iF fm))), (3, .c (.ls Nl 1 (iF fl))), (9, .c (bC true)), (10, .c (.ls n1 3 (rowF bpC bpZ26 L))), (11, .c (.ls n2 4 (rowF bgC bgZ Y))), (51, .c (bC false))] [] []) ?_ (fun S2 hw2 => AWp.weak hw2 ?_)
          · by_cases h1 : n2 < M
            · have h2 : ¬ n2 < 5 := by omega
              repeat (first
                | (refine AWp.region (id := 9) ?_; refine AList.move rfl rfl rfl ?_; refine AList.move rfl rfl rfl ?_; refine AList.lenLs tyOk rfl rfl rfl rfl rfl ?_; refine AList.cmpT rfl rfl rfl rfl rfl cmT ?_; refine AList.move rfl rfl rfl ?_; refine AList.move rfl rfl rfl ?_; refine AList.cmpF rfl rfl rfl rfl rfl cmF ?_; refine AList.pickT rfl rfl rfl rfl ?_; refine AList.nil ?_))
              refine ⟨rfl, Wk.mkG [] rfl rfl rfl rfl rfl ?_ trivial⟩
              repeat (first | exact trivial | refine ⟨⟨_, rfl, by first | exact LeA.c (LeC.refl _ rfl) | exact LeA.c (LeC.ow _ _ rfl) | exact LeA.c (LeC.pt _ _ _ _ _ rfl) | exact LeA.c (LeC.nil _ rfl) | exact LeA.c (LeC.nils _ _) | (refine LeA.int ?_; omega) | (refine LeA.int ?_; dsimp only; omega) | exact LeA.c (LeC.fz rfl rfl (by first | rfl | omega) (fun i _ j _ => ⟨rfl, by first | rfl | exact rowN_imm (fun _ => rfl) _ i j | exact rowF_imm (fun _ => rfl) _ i j⟩))⟩, ?_⟩)
            · repeat (first
                | (refine AWp.region (id := 9) ?_; refine AList.move rfl rfl rfl ?_; refine AList.move rfl rfl rfl ?_; refine AList.lenLs tyOk rfl rfl rfl rfl rfl ?_; refine AList.cmpF rfl rfl rfl rfl rfl cmF ?_; refine AList.move rfl rfl rfl ?_; refine AList.skip rfl rfl ?_; refine AList.skip rfl rfl ?_; refine AList.pickF rfl rfl rfl rfl ?_; refine AList.nil ?_))
              refine ⟨rfl, Wk.mkG [] rfl rfl rfl rfl rfl ?_ trivial⟩
              repeat (first | exact trivial | refine ⟨⟨_, rfl, by first | exact LeA.c (LeC.refl _ rfl) | exact LeA.c (LeC.ow _ _ rfl) | exact LeA.c (LeC.pt _ _ _ _ _ rfl) | exact LeA.c (LeC.nil _ rfl) | exact LeA.c (LeC.nils _ _) | (refine LeA.int ?_; omega) | (refine LeA.int ?_; dsimp only; omega) | exact LeA.c (LeC.fz rfl rfl (by first | rfl | omega) (fun i _ j _ => ⟨rfl, by first | rfl | exact rowN_imm (fun _ => rfl) _ i j | exact rowF_imm (fun _ => rfl) _ i j⟩))⟩, ?_⟩)
          have hNr := Near_W L Y b x (by omega) (by omega)
          rw [hLn, hYn] at hNr
          have hLe := fun k => Least_W (L.getD k bpZ26) b (Y.getD k bgZ) x
          have hCf := fun k => Confused_A (L.getD k bpZ26) b (Y.getD k bgZ) x
          have hcn := fun k => conf_near (L.getD k bpZ26) b (Y.getD k bgZ) x
          have hpd : ∀ k, nrP L Y b x k = (decide (cmpOk (L.getD k bpZ26) b) && decide (leL (L.getD k bpZ26) b (Y.getD k bgZ) x ≤ 0)) := fun k => rfl
          generalize nrP L Y b x = p at *
          obtain ⟨m, hm⟩ : ∃ m, min n1 n2 = m := ⟨_, rfl⟩
          rw [hm] at hNr
          obtain ⟨NL, hNL⟩ : ∃ l, nrL p m = l := ⟨_, rfl⟩
          rw [hNL] at hNr
          have hNLl : NL.length ≤ m := by rw [← hNL]; exact nrL_le p m
          repeat (first
            | refine AWp.seq ?_
            | refine thenA_n ?_
            | refine AWp.block ?_
            | refine AWp.exit ?_
            | refine AWp.condF rfl (by first | rfl | assumption | exact cmF) ?_
            | (refine AWp.draw (id := 12) mixed ?_; refine AList.move rfl rfl rfl ?_; refine AList.call rfl rfl rfl rfl Tryd.func10 rfl (by kernel_rfl) (hCm) ?_; refine AList.call rfl rfl rfl rfl Tryd.func9 rfl (by kernel_rfl) (hMm) ?_; refine AList.move rfl rfl rfl ?_; refine AList.move rfl rfl rfl ?_; refine AList.lenLs tyOk rfl rfl rfl rfl rfl ?_; refine AList.minI rfl rfl rfl rfl ?_; refine AList.cut (l := 0) (h := nl4) tyOk rfl rfl rfl rfl rfl rfl rfl rfl ⟨_, _, rfl, by first | rfl | omega⟩ (by omega) (by omega) ?_; refine AList.call rfl rfl rfl rfl Tryd.func20 rfl (by kernel_rfl) (hBl) ?_; refine AList.alloc tyOk rfl rfl rfl rfl rfl ?_; refine AList.alloc tyOk rfl rfl rfl rfl rfl ?_; refine AList.store tyOk rfl rfl rfl rfl rfl rfl rfl rfl oM oM ?_; refine AList.store tyOk rfl rfl rfl rfl rfl rfl rfl rfl oM oM ?_; refine AList.nil ⟨by kernel_rfl, ?_⟩)
            | (refine AWp.region (id := 13) ?_; refine AList.move rfl rfl rfl ?_; refine AList.move rfl rfl rfl ?_; refine AList.loadA tyOk rfl rfl rfl rfl rfl rfl rfl oM oM ?_; refine AList.loadA tyOk rfl rfl rfl rfl rfl rfl rfl oM oM ?_; refine AList.callW (fun _ h => h.2) rfl rfl rfl rfl Tryd.func21 rfl (by kernel_rfl) (hNr) ?_; refine AList.assign rfl rfl rfl ?_; refine AList.nil ?_)
            | (refine AWp.region (id := 14) ?_; refine AList.assign rfl rfl rfl ?_; refine AList.nil ?_)
            | (refine AWp.region (id := 15) ?_; refine AList.assign rfl rfl rfl ?_; refine AList.nil ?_))
          refine AWp.round (fun k : Nat => mkG (GW Sides) 0 false 159 0 [(9, .c (bC true)), (10, .c (.ls n1 3 (rowF bpC bpZ26 L))), (11, .c (.ls n2 4 (rowF bgC bgZ Y))), (14, .c (.pt 14 3 0 0)), (15, .c (.pt 15 4 0 0)), (16, .c (.ls NL.length 1 (iF (nrF NL)))), (17, .c (iC (nrL p k).length)), (18, .c (iC k))] [(14, ⟨false, 1, 3, 30, lF (bpC b)⟩), (15, ⟨false, 1, 4, 25, lF (bgC x)⟩)] [14, 15])
            (fun k => k ≤ m) (fun k => m - k) 0 (Nat.zero_le _) ?_ (fun k hk => ?_)
          · refine Wk.mkG [(14, some 14), (15, some 15)] rfl rfl rfl rfl rfl ?_ ?_
            · repeat (first | exact trivial | refine ⟨⟨_, rfl, by first | exact LeA.c (LeC.refl _ rfl) | exact LeA.c (LeC.ow _ _ rfl) | exact LeA.c (LeC.pt _ _ _ _ _ rfl) | exact LeA.c (LeC.nil _ rfl) | exact LeA.c (LeC.nils _ _) | (refine LeA.int ?_; omega) | (refine LeA.int ?_; dsimp only; omega) | exact LeA.c (LeC.fz rfl rfl (by first | rfl | omega) (fun i _ j _ => ⟨rfl, by first | rfl | exact rowN_imm (fun _ => rfl) _ i j | exact rowF_imm (fun _ => rfl) _ i j⟩))⟩, ?_⟩)
            · repeat (first | exact trivial | refine ⟨by first | exact HeapOk.same rfl rfl rfl rfl | exact HeapOk.lent rfl rfl rfl rfl | exact HeapOk.nil rfl rfl | exact HeapOk.row rfl rfl (by first | rfl | omega) (fun i _ j _ => ⟨rfl, by first | rfl | exact rowN_imm (fun _ => rfl) _ i j | exact rowF_imm (fun _ => rfl) _ i j⟩) | exact HeapOk.box rfl rfl (by repeat (first | exact trivial | refine ⟨by first | exact LeC.refl _ rfl | exact LeC.ow _ _ rfl | exact LeC.nil _ rfl | exact LeC.nils _ _ | exact LeC.fz rfl rfl (by first | rfl | omega) (fun i _ j _ => ⟨rfl, by first | rfl | exact rowN_imm (fun _ => rfl) _ i j | exact rowF_imm (fun _ => rfl) _ i j⟩) | exact LeC.int (by omega), ?_⟩)) rfl, ?_⟩)
          · by_cases hkm2 : k < m
            · have hLk := hLe k
              have hCk := hCf k
              have hcnk := hcn k
              have hpk := hpd k
              have hat := near_at p hkm2
              rw [show (List.range m).filter p = NL from hNL, show (List.range k).filter p = nrL p k from rfl] at hat
              have hsu := congrArg List.length (nrL_succ p k)
              have hle := nrL_le p k
              obtain ⟨at0, hat0⟩ : ∃ a, (nrL p k).length = a := ⟨_, rfl⟩
              rw [List.length_append, hat0] at hsu
              rw [hat0] at hat hle ⊢
              obtain ⟨nv, hnv⟩ : ∃ v, NL.getD at0 0 = v := ⟨_, rfl⟩
              have hnv2 : nrF NL at0 = (nv : Int) := by unfold nrF; rw [hnv]
              rw [hnv] at hat
              obtain ⟨⟨cl, cb⟩, hcv⟩ : ∃ v, cnfV (L.getD k bpZ26) b (Y.getD k bgZ) x = v := ⟨_, rfl⟩
              rw [hcv] at hCk hcnk
              generalize leL (L.getD k bpZ26) b (Y.getD k bgZ) x = le at *
              by_cases hg : cmpOk (L.getD k bpZ26) b ∧ le ≤ 0
              · rw [decide_eq_true hg.1, decide_eq_true hg.2] at hpk
                replace hpk : p k = true := hpk
                rw [decide_eq_true hg.1] at hLk
                obtain ⟨a1, a2⟩ := hat.2 hpk
                have a3 := hg.2
                rw [hpk, if_pos rfl] at hsu
                have hsu2 : (nrL p (k + 1)).length = at0 + 1 := hsu
                cases cb
                all_goals
                  repeat (first
                    | refine AWp.seq ?_
                    | refine thenA_n ?_
                    | refine AWp.block ?_
                    | refine AWp.skip ?_
                    | refine inBlk_n ?_
                    | refine AWp.condT rfl (by first | rfl | assumption | exact cmT) ?_
                    | refine AWp.condF rfl (by first | rfl | assumption | exact cmF) ?_
                    | (refine AWp.region (id := 16) ?_; refine AList.move rfl rfl rfl ?_; refine AList.move rfl rfl rfl ?_; refine AList.lenLs tyOk rfl rfl rfl rfl rfl ?_; refine AList.cmpT rfl rfl rfl rfl rfl cmT ?_; refine AList.move rfl rfl rfl ?_; refine AList.move rfl rfl rfl ?_; refine AList.move rfl rfl rfl ?_; refine AList.lenLs tyOk rfl rfl rfl rfl rfl ?_; refine AList.cmpT rfl rfl rfl rfl rfl cmT ?_; refine AList.pickT rfl rfl rfl rfl ?_; refine AList.nil ?_)
                    | (refine AWp.region (id := 17) ?_; refine AList.move rfl rfl rfl ?_; refine AList.add rfl rfl rfl rfl (by omega) (by omega) ?_; refine AList.assign rfl rfl rfl ?_; refine AList.nil ?_)
                    | (refine AWp.draw (id := 18) mixed ?_; refine AList.move rfl rfl rfl ?_; refine AList.move rfl rfl rfl ?_; refine AList.idx (k := k) tyOk rfl rfl rfl rfl rfl rfl rfl rfl (by first | rfl | omega) oM oM ?_; refine AList.loadAl tyOk rfl rfl rfl rfl rfl oM ?_; refine AList.loadA tyOk rfl rfl rfl rfl rfl rfl rfl oM oM ?_; refine AList.move rfl rfl rfl ?_; refine AList.move rfl rfl rfl ?_; refine AList.idx (k := k) tyOk rfl rfl rfl rfl rfl rfl rfl rfl (by first | rfl | omega) oM oM ?_; refine AList.loadAl tyOk rfl rfl rfl rfl rfl oM ?_; refine AList.loadA tyOk rfl rfl rfl rfl rfl rfl rfl oM oM ?_; refine AList.callW (fun _ h => h.2) rfl rfl rfl rfl Tryd.func15 rfl (by kernel_rfl) (hLk) ?_; refine AList.move rfl rfl rfl ?_; refine AList.extract rfl rfl rfl rfl ?_; refine AList.extract rfl rfl rfl rfl ?_; refine AList.assign rfl rfl rfl ?_; refine AList.assign rfl rfl rfl ?_; refine AList.nil ⟨by kernel_rfl, ?_⟩)
                    | (refine AWp.draw (id := 19) mixed ?_; refine AList.move rfl rfl rfl ?_; refine AList.move rfl rfl rfl ?_; refine AList.idx (k := k) tyOk rfl rfl rfl rfl rfl rfl rfl rfl (by first | rfl | omega) oM oM ?_; refine AList.loadAl tyOk rfl rfl rfl rfl rfl oM ?_; refine AList.loadA tyOk rfl rfl rfl rfl rfl rfl rfl oM oM ?_; refine AList.move rfl rfl rfl ?_; refine AList.move rfl rfl rfl ?_; refine AList.idx (k := k) tyOk rfl rfl rfl rfl rfl rfl rfl rfl (by first | rfl | omega) oM oM ?_; refine AList.loadAl tyOk rfl rfl rfl rfl rfl oM ?_; refine AList.loadA tyOk rfl rfl rfl rfl rfl rfl rfl oM oM ?_; refine AList.call rfl rfl rfl rfl Tryd.func22 rfl (by kernel_rfl) (hCk) ?_; refine AList.move rfl rfl rfl ?_; refine AList.extract rfl rfl rfl rfl ?_; refine AList.extract rfl rfl rfl rfl ?_; refine AList.alloc tyOk rfl rfl rfl rfl rfl ?_; refine AList.store tyOk rfl rfl rfl rfl rfl rfl rfl rfl oM oM ?_; refine AList.assign rfl rfl rfl ?_; refine AList.nil ⟨by kernel_rfl, ?_⟩)
                    | (refine AWp.region (id := 20) ?_; refine AList.move rfl rfl rfl ?_; refine AList.move rfl rfl rfl ?_; refine AList.lenLs tyOk rfl rfl rfl rfl rfl ?_; refine AList.cmpT rfl rfl rfl rfl rfl cmT ?_; refine AList.move rfl rfl rfl ?_; refine AList.move rfl rfl rfl ?_; refine AList.move rfl rfl rfl ?_; refine AList.idx (k := at0) tyOk rfl rfl rfl rfl rfl rfl rfl rfl (by first | rfl | omega) oM oM ?_; refine AList.load1l tyOk rfl rfl rfl rfl rfl oM ?_; refine AList.move rfl rfl rfl ?_; refine AList.cmpT rfl rfl rfl rfl rfl cmT ?_; refine AList.pickT rfl rfl rfl rfl ?_; refine AList.assign rfl rfl rfl ?_; refine AList.nil ?_)
                    | (refine AWp.region (id := 21) ?_; refine AList.move rfl rfl rfl ?_; refine AList.move rfl rfl rfl ?_; refine AList.move rfl rfl rfl ?_; refine AList.move rfl rfl rfl ?_; refine AList.cmpT rfl rfl rfl rfl rfl cmT ?_; refine AList.pickT rfl rfl rfl rfl ?_; refine AList.neB rfl rfl rfl rfl (by kernel_rfl) ?_; refine AList.move rfl rfl rfl ?_; refine AList.move rfl rfl rfl ?_; refine AList.move rfl rfl rfl ?_; (first | refine AList.skip rfl rfl ?_ | refine AList.move rfl rfl rfl ?_); (first | refine AList.skip rfl rfl ?_ | refine AList.notB rfl rfl rfl ?_); (first | refine AList.pickT rfl rfl rfl rfl ?_ | refine AList.pickF rfl rfl rfl rfl ?_); refine AList.pickF rfl rfl rfl rfl ?_; refine AList.nil ?_)
                    | (refine AWp.region (id := 23) ?_; refine AList.move rfl rfl rfl ?_; refine AList.nil ?_)
                    | (refine AWp.region (id := 24) ?_; refine AList.move rfl rfl rfl ?_; refine AList.add rfl rfl rfl rfl (by omega) (by omega) ?_; refine AList.assign rfl rfl rfl ?_; refine AList.nil ?_))
                  refine ⟨k + 1, hkm2, Wk.mkG [(14, some 14), (15, some 15)] rfl rfl rfl rfl rfl ?_ ?_, by omega⟩
                  · rw [hsu2]
                    repeat (first | exact trivial | refine ⟨⟨_, rfl, by first | exact LeA.c (LeC.refl _ rfl) | exact LeA.c (LeC.ow _ _ rfl) | exact LeA.c (LeC.pt _ _ _ _ _ rfl) | exact LeA.c (LeC.nil _ rfl) | exact LeA.c (LeC.nils _ _) | (refine LeA.int ?_; omega) | (refine LeA.int ?_; dsimp only; omega) | exact LeA.c (LeC.fz rfl rfl (by first | rfl | omega) (fun i _ j _ => ⟨rfl, by first | rfl | exact rowN_imm (fun _ => rfl) _ i j | exact rowF_imm (fun _ => rfl) _ i j⟩))⟩, ?_⟩)
                  · repeat (first | exact trivial | refine ⟨by first | exact HeapOk.same rfl rfl rfl rfl | exact HeapOk.lent rfl rfl rfl rfl | exact HeapOk.nil rfl rfl | exact HeapOk.row rfl rfl (by first | rfl | omega) (fun i _ j _ => ⟨rfl, by first | rfl | exact rowN_imm (fun _ => rfl) _ i j | exact rowF_imm (fun _ => rfl) _ i j⟩) | exact HeapOk.box rfl rfl (by repeat (first | exact trivial | refine ⟨by first | exact LeC.refl _ rfl | exact LeC.ow _ _ rfl | exact LeC.nil _ rfl | exact LeC.nils _ _ | exact LeC.fz rfl rfl (by first | rfl | omega) (fun i _ j _ => ⟨rfl, by first | rfl | exact rowN_imm (fun _ => rfl) _ i j | exact rowF_imm (fun _ => rfl) _ i j⟩) | exact LeC.int (by omega), ?_⟩)) rfl, ?_⟩)
              · have hpf : p k = false := by
                  rw [hpk]
                  by_cases h1 : cmpOk (L.getD k bpZ26) b
                  · rw [decide_eq_false (fun h => hg ⟨h1, h⟩), Bool.and_false]
                  · rw [decide_eq_false h1, Bool.false_and]
                rw [hpf, if_neg (by decide)] at hsu
                have hsu2 : (nrL p (k + 1)).length = at0 := hsu
                have hcb : cb = false := by
                  cases cb with
                  | false => rfl
                  | true => exact absurd (hcnk rfl) hg
                subst hcb
                have hna : ¬ (at0 < NL.length ∧ nv = k) := fun h => by have := hat.1 h; rw [hpf] at this; cases this
                by_cases h1 : cmpOk (L.getD k bpZ26) b
                · have h0 : ¬ le ≤ 0 := fun h => hg ⟨h1, h⟩
                  rw [decide_eq_true h1] at hLk
                  by_cases ha : at0 < NL.length
                  · have hb2 : ¬ nv = k := fun h => hna ⟨ha, h⟩
                    repeat (first
                      | refine AWp.seq ?_
                      | refine thenA_n ?_
                      | refine AWp.block ?_
                      | refine AWp.skip ?_
                      | refine inBlk_n ?_
                      | refine AWp.condT rfl (by first | rfl | assumption | exact cmT) ?_
                      | refine AWp.condF rfl (by first | rfl | assumption | exact cmF) ?_
                      | (refine AWp.region (id := 16) ?_; refine AList.move rfl rfl rfl ?_; refine AList.move rfl rfl rfl ?_; refine AList.lenLs tyOk rfl rfl rfl rfl rfl ?_; refine AList.cmpT rfl rfl rfl rfl rfl cmT ?_; refine AList.move rfl rfl rfl ?_; refine AList.move rfl rfl rfl ?_; refine AList.move rfl rfl rfl ?_; refine AList.lenLs tyOk rfl rfl rfl rfl rfl ?_; refine AList.cmpT rfl rfl rfl rfl rfl cmT ?_; refine AList.pickT rfl rfl rfl rfl ?_; refine AList.nil ?_)
                      | (refine AWp.region (id := 17) ?_; refine AList.move rfl rfl rfl ?_; refine AList.add rfl rfl rfl rfl (by omega) (by omega) ?_; refine AList.assign rfl rfl rfl ?_; refine AList.nil ?_)
                      | (refine AWp.draw (id := 18) mixed ?_; refine AList.move rfl rfl rfl ?_; refine AList.move rfl rfl rfl ?_; refine AList.idx (k := k) tyOk rfl rfl rfl rfl rfl rfl rfl rfl (by first | rfl | omega) oM oM ?_; refine AList.loadAl tyOk rfl rfl rfl rfl rfl oM ?_; refine AList.loadA tyOk rfl rfl rfl rfl rfl rfl rfl oM oM ?_; refine AList.move rfl rfl rfl ?_; refine AList.move rfl rfl rfl ?_; refine AList.idx (k := k) tyOk rfl rfl rfl rfl rfl rfl rfl rfl (by first | rfl | omega) oM oM ?_; refine AList.loadAl tyOk rfl rfl rfl rfl rfl oM ?_; refine AList.loadA tyOk rfl rfl rfl rfl rfl rfl rfl oM oM ?_; refine AList.callW (fun _ h => h.2) rfl rfl rfl rfl Tryd.func15 rfl (by kernel_rfl) (hLk) ?_; refine AList.move rfl rfl rfl ?_; refine AList.extract rfl rfl rfl rfl ?_; refine AList.extract rfl rfl rfl rfl ?_; refine AList.assign rfl rfl rfl ?_; refine AList.assign rfl rfl rfl ?_; refine AList.nil ⟨by kernel_rfl, ?_⟩)
                      | (refine AWp.draw (id := 19) mixed ?_; refine AList.move rfl rfl rfl ?_; refine AList.move rfl rfl rfl ?_; refine AList.idx (k := k) tyOk rfl rfl rfl rfl rfl rfl rfl rfl (by first | rfl | omega) oM oM ?_; refine AList.loadAl tyOk rfl rfl rfl rfl rfl oM ?_; refine AList.loadA tyOk rfl rfl rfl rfl rfl rfl rfl oM oM ?_; refine AList.move rfl rfl rfl ?_; refine AList.move rfl rfl rfl ?_; refine AList.idx (k := k) tyOk rfl rfl rfl rfl rfl rfl rfl rfl (by first | rfl | omega) oM oM ?_; refine AList.loadAl tyOk rfl rfl rfl rfl rfl oM ?_; refine AList.loadA tyOk rfl rfl rfl rfl rfl rfl rfl oM oM ?_; refine AList.call rfl rfl rfl rfl Tryd.func22 rfl (by kernel_rfl) (hCk) ?_; refine AList.move rfl rfl rfl ?_; refine AList.extract rfl rfl rfl rfl ?_; refine AList.extract rfl rfl rfl rfl ?_; refine AList.alloc tyOk rfl rfl rfl rfl rfl ?_; refine AList.store tyOk rfl rfl rfl rfl rfl rfl rfl rfl oM oM ?_; refine AList.assign rfl rfl rfl ?_; refine AList.nil ⟨by kernel_rfl, ?_⟩)
                      | (refine AWp.region (id := 20) ?_; refine AList.move rfl rfl rfl ?_; refine AList.move rfl rfl rfl ?_; refine AList.lenLs tyOk rfl rfl rfl rfl rfl ?_; refine AList.cmpT rfl rfl rfl rfl rfl cmT ?_; refine AList.move rfl rfl rfl ?_; refine AList.move rfl rfl rfl ?_; refine AList.move rfl rfl rfl ?_; refine AList.idx (k := at0) tyOk rfl rfl rfl rfl rfl rfl rfl rfl (by first | rfl | omega) oM oM ?_; refine AList.load1l tyOk rfl rfl rfl rfl rfl oM ?_; refine AList.move rfl rfl rfl ?_; refine AList.cmpF rfl rfl rfl rfl rfl cmF ?_; refine AList.pickT rfl rfl rfl rfl ?_; refine AList.assign rfl rfl rfl ?_; refine AList.nil ?_)
                      | (refine AWp.region (id := 21) ?_; refine AList.move rfl rfl rfl ?_; refine AList.move rfl rfl rfl ?_; refine AList.move rfl rfl rfl ?_; refine AList.move rfl rfl rfl ?_; refine AList.cmpF rfl rfl rfl rfl rfl cmF ?_; refine AList.pickT rfl rfl rfl rfl ?_; refine AList.neB rfl rfl rfl rfl (by kernel_rfl) ?_; refine AList.move rfl rfl rfl ?_; refine AList.move rfl rfl rfl ?_; refine AList.move rfl rfl rfl ?_; refine AList.skip rfl rfl ?_; refine AList.skip rfl rfl ?_; refine AList.pickF rfl rfl rfl rfl ?_; refine AList.pickF rfl rfl rfl rfl ?_; refine AList.nil ?_)
                      | (refine AWp.region (id := 23) ?_; refine AList.move rfl rfl rfl ?_; refine AList.nil ?_))
                    refine ⟨k + 1, hkm2, Wk.mkG [(14, some 14), (15, some 15)] rfl rfl rfl rfl rfl ?_ ?_, by omega⟩
                    · rw [hsu2]
                      repeat (first | exact trivial | refine ⟨⟨_, rfl, by first | exact LeA.c (LeC.refl _ rfl) | exact LeA.c (LeC.ow _ _ rfl) | exact LeA.c (LeC.pt _ _ _ _ _ rfl) | exact LeA.c (LeC.nil _ rfl) | exact LeA.c (LeC.nils _ _) | (refine LeA.int ?_; omega) | (refine LeA.int ?_; dsimp only; omega) | exact LeA.c (LeC.fz rfl rfl (by first | rfl | omega) (fun i _ j _ => ⟨rfl, by first | rfl | exact rowN_imm (fun _ => rfl) _ i j | exact rowF_imm (fun _ => rfl) _ i j⟩))⟩, ?_⟩)
                    · repeat (first | exact trivial | refine ⟨by first | exact HeapOk.same rfl rfl rfl rfl | exact HeapOk.lent rfl rfl rfl rfl | exact HeapOk.nil rfl rfl | exact HeapOk.row rfl rfl (by first | rfl | omega) (fun i _ j _ => ⟨rfl, by first | rfl | exact rowN_imm (fun _ => rfl) _ i j | exact rowF_imm (fun _ => rfl) _ i j⟩) | exact HeapOk.box rfl rfl (by repeat (first | exact trivial | refine ⟨by first | exact LeC.refl _ rfl | exact LeC.ow _ _ rfl | exact LeC.nil _ rfl | exact LeC.nils _ _ | exact LeC.fz rfl rfl (by first | rfl | omega) (fun i _ j _ => ⟨rfl, by first | rfl | exact rowN_imm (fun _ => rfl) _ i j | exact rowF_imm (fun _ => rfl) _ i j⟩) | exact LeC.int (by omega), ?_⟩)) rfl, ?_⟩)
                  · repeat (first
                      | refine AWp.seq ?_
                      | refine thenA_n ?_
                      | refine AWp.block ?_
                      | refine AWp.skip ?_
                      | refine inBlk_n ?_
                      | refine AWp.condT rfl (by first | rfl | assumption | exact cmT) ?_
                      | refine AWp.condF rfl (by first | rfl | assumption | exact cmF) ?_
                      | (refine AWp.region (id := 16) ?_; refine AList.move rfl rfl rfl ?_; refine AList.move rfl rfl rfl ?_; refine AList.lenLs tyOk rfl rfl rfl rfl rfl ?_; refine AList.cmpT rfl rfl rfl rfl rfl cmT ?_; refine AList.move rfl rfl rfl ?_; refine AList.move rfl rfl rfl ?_; refine AList.move rfl rfl rfl ?_; refine AList.lenLs tyOk rfl rfl rfl rfl rfl ?_; refine AList.cmpT rfl rfl rfl rfl rfl cmT ?_; refine AList.pickT rfl rfl rfl rfl ?_; refine AList.nil ?_)
                      | (refine AWp.region (id := 17) ?_; refine AList.move rfl rfl rfl ?_; refine AList.add rfl rfl rfl rfl (by omega) (by omega) ?_; refine AList.assign rfl rfl rfl ?_; refine AList.nil ?_)
                      | (refine AWp.draw (id := 18) mixed ?_; refine AList.move rfl rfl rfl ?_; refine AList.move rfl rfl rfl ?_; refine AList.idx (k := k) tyOk rfl rfl rfl rfl rfl rfl rfl rfl (by first | rfl | omega) oM oM ?_; refine AList.loadAl tyOk rfl rfl rfl rfl rfl oM ?_; refine AList.loadA tyOk rfl rfl rfl rfl rfl rfl rfl oM oM ?_; refine AList.move rfl rfl rfl ?_; refine AList.move rfl rfl rfl ?_; refine AList.idx (k := k) tyOk rfl rfl rfl rfl rfl rfl rfl rfl (by first | rfl | omega) oM oM ?_; refine AList.loadAl tyOk rfl rfl rfl rfl rfl oM ?_; refine AList.loadA tyOk rfl rfl rfl rfl rfl rfl rfl oM oM ?_; refine AList.callW (fun _ h => h.2) rfl rfl rfl rfl Tryd.func15 rfl (by kernel_rfl) (hLk) ?_; refine AList.move rfl rfl rfl ?_; refine AList.extract rfl rfl rfl rfl ?_; refine AList.extract rfl rfl rfl rfl ?_; refine AList.assign rfl rfl rfl ?_; refine AList.assign rfl rfl rfl ?_; refine AList.nil ⟨by kernel_rfl, ?_⟩)
                      | (refine AWp.draw (id := 19) mixed ?_; refine AList.move rfl rfl rfl ?_; refine AList.move rfl rfl rfl ?_; refine AList.idx (k := k) tyOk rfl rfl rfl rfl rfl rfl rfl rfl (by first | rfl | omega) oM oM ?_; refine AList.loadAl tyOk rfl rfl rfl rfl rfl oM ?_; refine AList.loadA tyOk rfl rfl rfl rfl rfl rfl rfl oM oM ?_; refine AList.move rfl rfl rfl ?_; refine AList.move rfl rfl rfl ?_; refine AList.idx (k := k) tyOk rfl rfl rfl rfl rfl rfl rfl rfl (by first | rfl | omega) oM oM ?_; refine AList.loadAl tyOk rfl rfl rfl rfl rfl oM ?_; refine AList.loadA tyOk rfl rfl rfl rfl rfl rfl rfl oM oM ?_; refine AList.call rfl rfl rfl rfl Tryd.func22 rfl (by kernel_rfl) (hCk) ?_; refine AList.move rfl rfl rfl ?_; refine AList.extract rfl rfl rfl rfl ?_; refine AList.extract rfl rfl rfl rfl ?_; refine AList.alloc tyOk rfl rfl rfl rfl rfl ?_; refine AList.store tyOk rfl rfl rfl rfl rfl rfl rfl rfl oM oM ?_; refine AList.assign rfl rfl rfl ?_; refine AList.nil ⟨by kernel_rfl, ?_⟩)
                      | (refine AWp.region (id := 20) ?_; refine AList.move rfl rfl rfl ?_; refine AList.move rfl rfl rfl ?_; refine AList.lenLs tyOk rfl rfl rfl rfl rfl ?_; refine AList.cmpF rfl rfl rfl rfl rfl cmF ?_; refine AList.move rfl rfl rfl ?_; refine AList.skip rfl rfl ?_; refine AList.skip rfl rfl ?_; refine AList.skip rfl rfl ?_; refine AList.skip rfl rfl ?_; refine AList.skip rfl rfl ?_; refine AList.skip rfl rfl ?_; refine AList.pickF rfl rfl rfl rfl ?_; refine AList.assign rfl rfl rfl ?_; refine AList.nil ?_)
                      | (refine AWp.region (id := 21) ?_; refine AList.move rfl rfl rfl ?_; refine AList.move rfl rfl rfl ?_; refine AList.move rfl rfl rfl ?_; refine AList.move rfl rfl rfl ?_; refine AList.cmpF rfl rfl rfl rfl rfl cmF ?_; refine AList.pickT rfl rfl rfl rfl ?_; refine AList.neB rfl rfl rfl rfl (by kernel_rfl) ?_; refine AList.move rfl rfl rfl ?_; refine AList.move rfl rfl rfl ?_; refine AList.move rfl rfl rfl ?_; refine AList.skip rfl rfl ?_; refine AList.skip rfl rfl ?_; refine AList.pickF rfl rfl rfl rfl ?_; refine AList.pickF rfl rfl rfl rfl ?_; refine AList.nil ?_)
                      | (refine AWp.region (id := 23) ?_; refine AList.move rfl rfl rfl ?_; refine AList.nil ?_))
                    refine ⟨k + 1, hkm2, Wk.mkG [(14, some 14), (15, some 15)] rfl rfl rfl rfl rfl ?_ ?_, by omega⟩
                    · rw [hsu2]
                      repeat (first | exact trivial | refine ⟨⟨_, rfl, by first | exact LeA.c (LeC.refl _ rfl) | exact LeA.c (LeC.ow _ _ rfl) | exact LeA.c (LeC.pt _ _ _ _ _ rfl) | exact LeA.c (LeC.nil _ rfl) | exact LeA.c (LeC.nils _ _) | (refine LeA.int ?_; omega) | (refine LeA.int ?_; dsimp only; omega) | exact LeA.c (LeC.fz rfl rfl (by first | rfl | omega) (fun i _ j _ => ⟨rfl, by first | rfl | exact rowN_imm (fun _ => rfl) _ i j | exact rowF_imm (fun _ => rfl) _ i j⟩))⟩, ?_⟩)
                    · repeat (first | exact trivial | refine ⟨by first | exact HeapOk.same rfl rfl rfl rfl | exact HeapOk.lent rfl rfl rfl rfl | exact HeapOk.nil rfl rfl | exact HeapOk.row rfl rfl (by first | rfl | omega) (fun i _ j _ => ⟨rfl, by first | rfl | exact rowN_imm (fun _ => rfl) _ i j | exact rowF_imm (fun _ => rfl) _ i j⟩) | exact HeapOk.box rfl rfl (by repeat (first | exact trivial | refine ⟨by first | exact LeC.refl _ rfl | exact LeC.ow _ _ rfl | exact LeC.nil _ rfl | exact LeC.nils _ _ | exact LeC.fz rfl rfl (by first | rfl | omega) (fun i _ j _ => ⟨rfl, by first | rfl | exact rowN_imm (fun _ => rfl) _ i j | exact rowF_imm (fun _ => rfl) _ i j⟩) | exact LeC.int (by omega), ?_⟩)) rfl, ?_⟩)
                · rw [decide_eq_false h1] at hLk
                  by_cases ha : at0 < NL.length
                  · have hb2 : ¬ nv = k := fun h => hna ⟨ha, h⟩
                    repeat (first
                      | refine AWp.seq ?_
                      | refine thenA_n ?_
                      | refine AWp.block ?_
                      | refine AWp.skip ?_
                      | refine inBlk_n ?_
                      | refine AWp.condT rfl (by first | rfl | assumption | exact cmT) ?_
                      | refine AWp.condF rfl (by first | rfl | assumption | exact cmF) ?_
                      | (refine AWp.region (id := 16) ?_; refine AList.move rfl rfl rfl ?_; refine AList.move rfl rfl rfl ?_; refine AList.lenLs tyOk rfl rfl rfl rfl rfl ?_; refine AList.cmpT rfl rfl rfl rfl rfl cmT ?_; refine AList.move rfl rfl rfl ?_; refine AList.move rfl rfl rfl ?_; refine AList.move rfl rfl rfl ?_; refine AList.lenLs tyOk rfl rfl rfl rfl rfl ?_; refine AList.cmpT rfl rfl rfl rfl rfl cmT ?_; refine AList.pickT rfl rfl rfl rfl ?_; refine AList.nil ?_)
                      | (refine AWp.region (id := 17) ?_; refine AList.move rfl rfl rfl ?_; refine AList.add rfl rfl rfl rfl (by omega) (by omega) ?_; refine AList.assign rfl rfl rfl ?_; refine AList.nil ?_)
                      | (refine AWp.draw (id := 18) mixed ?_; refine AList.move rfl rfl rfl ?_; refine AList.move rfl rfl rfl ?_; refine AList.idx (k := k) tyOk rfl rfl rfl rfl rfl rfl rfl rfl (by first | rfl | omega) oM oM ?_; refine AList.loadAl tyOk rfl rfl rfl rfl rfl oM ?_; refine AList.loadA tyOk rfl rfl rfl rfl rfl rfl rfl oM oM ?_; refine AList.move rfl rfl rfl ?_; refine AList.move rfl rfl rfl ?_; refine AList.idx (k := k) tyOk rfl rfl rfl rfl rfl rfl rfl rfl (by first | rfl | omega) oM oM ?_; refine AList.loadAl tyOk rfl rfl rfl rfl rfl oM ?_; refine AList.loadA tyOk rfl rfl rfl rfl rfl rfl rfl oM oM ?_; refine AList.callW (fun _ h => h.2) rfl rfl rfl rfl Tryd.func15 rfl (by kernel_rfl) (hLk) ?_; refine AList.move rfl rfl rfl ?_; refine AList.extract rfl rfl rfl rfl ?_; refine AList.extract rfl rfl rfl rfl ?_; refine AList.assign rfl rfl rfl ?_; refine AList.assign rfl rfl rfl ?_; refine AList.nil ⟨by kernel_rfl, ?_⟩)
                      | (refine AWp.draw (id := 19) mixed ?_; refine AList.move rfl rfl rfl ?_; refine AList.move rfl rfl rfl ?_; refine AList.idx (k := k) tyOk rfl rfl rfl rfl rfl rfl rfl rfl (by first | rfl | omega) oM oM ?_; refine AList.loadAl tyOk rfl rfl rfl rfl rfl oM ?_; refine AList.loadA tyOk rfl rfl rfl rfl rfl rfl rfl oM oM ?_; refine AList.move rfl rfl rfl ?_; refine AList.move rfl rfl rfl ?_; refine AList.idx (k := k) tyOk rfl rfl rfl rfl rfl rfl rfl rfl (by first | rfl | omega) oM oM ?_; refine AList.loadAl tyOk rfl rfl rfl rfl rfl oM ?_; refine AList.loadA tyOk rfl rfl rfl rfl rfl rfl rfl oM oM ?_; refine AList.call rfl rfl rfl rfl Tryd.func22 rfl (by kernel_rfl) (hCk) ?_; refine AList.move rfl rfl rfl ?_; refine AList.extract rfl rfl rfl rfl ?_; refine AList.extract rfl rfl rfl rfl ?_; refine AList.alloc tyOk rfl rfl rfl rfl rfl ?_; refine AList.store tyOk rfl rfl rfl rfl rfl rfl rfl rfl oM oM ?_; refine AList.assign rfl rfl rfl ?_; refine AList.nil ⟨by kernel_rfl, ?_⟩)
                      | (refine AWp.region (id := 20) ?_; refine AList.move rfl rfl rfl ?_; refine AList.move rfl rfl rfl ?_; refine AList.lenLs tyOk rfl rfl rfl rfl rfl ?_; refine AList.cmpT rfl rfl rfl rfl rfl cmT ?_; refine AList.move rfl rfl rfl ?_; refine AList.move rfl rfl rfl ?_; refine AList.move rfl rfl rfl ?_; refine AList.idx (k := at0) tyOk rfl rfl rfl rfl rfl rfl rfl rfl (by first | rfl | omega) oM oM ?_; refine AList.load1l tyOk rfl rfl rfl rfl rfl oM ?_; refine AList.move rfl rfl rfl ?_; refine AList.cmpF rfl rfl rfl rfl rfl cmF ?_; refine AList.pickT rfl rfl rfl rfl ?_; refine AList.assign rfl rfl rfl ?_; refine AList.nil ?_)
                      | (refine AWp.region (id := 21) ?_; refine AList.move rfl rfl rfl ?_; refine AList.move rfl rfl rfl ?_; refine AList.move rfl rfl rfl ?_; refine AList.skip rfl rfl ?_; refine AList.skip rfl rfl ?_; refine AList.pickF rfl rfl rfl rfl ?_; refine AList.neB rfl rfl rfl rfl (by kernel_rfl) ?_; refine AList.move rfl rfl rfl ?_; refine AList.move rfl rfl rfl ?_; refine AList.move rfl rfl rfl ?_; refine AList.skip rfl rfl ?_; refine AList.skip rfl rfl ?_; refine AList.pickF rfl rfl rfl rfl ?_; refine AList.pickF rfl rfl rfl rfl ?_; refine AList.nil ?_)
                      | (refine AWp.region (id := 23) ?_; refine AList.move rfl rfl rfl ?_; refine AList.nil ?_))
                    refine ⟨k + 1, hkm2, Wk.mkG [(14, some 14), (15, some 15)] rfl rfl rfl rfl rfl ?_ ?_, by omega⟩
                    · rw [hsu2]
                      repeat (first | exact trivial | refine ⟨⟨_, rfl, by first | exact LeA.c (LeC.refl _ rfl) | exact LeA.c (LeC.ow _ _ rfl) | exact LeA.c (LeC.pt _ _ _ _ _ rfl) | exact LeA.c (LeC.nil _ rfl) | exact LeA.c (LeC.nils _ _) | (refine LeA.int ?_; omega) | (refine LeA.int ?_; dsimp only; omega) | exact LeA.c (LeC.fz rfl rfl (by first | rfl | omega) (fun i _ j _ => ⟨rfl, by first | rfl | exact rowN_imm (fun _ => rfl) _ i j | exact rowF_imm (fun _ => rfl) _ i j⟩))⟩, ?_⟩)
                    · repeat (first | exact trivial | refine ⟨by first | exact HeapOk.same rfl rfl rfl rfl | exact HeapOk.lent rfl rfl rfl rfl | exact HeapOk.nil rfl rfl | exact HeapOk.row rfl rfl (by first | rfl | omega) (fun i _ j _ => ⟨rfl, by first | rfl | exact rowN_imm (fun _ => rfl) _ i j | exact rowF_imm (fun _ => rfl) _ i j⟩) | exact HeapOk.box rfl rfl (by repeat (first | exact trivial | refine ⟨by first | exact LeC.refl _ rfl | exact LeC.ow _ _ rfl | exact LeC.nil _ rfl | exact LeC.nils _ _ | exact LeC.fz rfl rfl (by first | rfl | omega) (fun i _ j _ => ⟨rfl, by first | rfl | exact rowN_imm (fun _ => rfl) _ i j | exact rowF_imm (fun _ => rfl) _ i j⟩) | exact LeC.int (by omega), ?_⟩)) rfl, ?_⟩)
                  · repeat (first
                      | refine AWp.seq ?_
                      | refine thenA_n ?_
                      | refine AWp.block ?_
                      | refine AWp.skip ?_
                      | refine inBlk_n ?_
                      | refine AWp.condT rfl (by first | rfl | assumption | exact cmT) ?_
                      | refine AWp.condF rfl (by first | rfl | assumption | exact cmF) ?_
                      | (refine AWp.region (id := 16) ?_; refine AList.move rfl rfl rfl ?_; refine AList.move rfl rfl rfl ?_; refine AList.lenLs tyOk rfl rfl rfl rfl rfl ?_; refine AList.cmpT rfl rfl rfl rfl rfl cmT ?_; refine AList.move rfl rfl rfl ?_; refine AList.move rfl rfl rfl ?_; refine AList.move rfl rfl rfl ?_; refine AList.lenLs tyOk rfl rfl rfl rfl rfl ?_; refine AList.cmpT rfl rfl rfl rfl rfl cmT ?_; refine AList.pickT rfl rfl rfl rfl ?_; refine AList.nil ?_)
                      | (refine AWp.region (id := 17) ?_; refine AList.move rfl rfl rfl ?_; refine AList.add rfl rfl rfl rfl (by omega) (by omega) ?_; refine AList.assign rfl rfl rfl ?_; refine AList.nil ?_)
                      | (refine AWp.draw (id := 18) mixed ?_; refine AList.move rfl rfl rfl ?_; refine AList.move rfl rfl rfl ?_; refine AList.idx (k := k) tyOk rfl rfl rfl rfl rfl rfl rfl rfl (by first | rfl | omega) oM oM ?_; refine AList.loadAl tyOk rfl rfl rfl rfl rfl oM ?_; refine AList.loadA tyOk rfl rfl rfl rfl rfl rfl rfl oM oM ?_; refine AList.move rfl rfl rfl ?_; refine AList.move rfl rfl rfl ?_; refine AList.idx (k := k) tyOk rfl rfl rfl rfl rfl rfl rfl rfl (by first | rfl | omega) oM oM ?_; refine AList.loadAl tyOk rfl rfl rfl rfl rfl oM ?_; refine AList.loadA tyOk rfl rfl rfl rfl rfl rfl rfl oM oM ?_; refine AList.callW (fun _ h => h.2) rfl rfl rfl rfl Tryd.func15 rfl (by kernel_rfl) (hLk) ?_; refine AList.move rfl rfl rfl ?_; refine AList.extract rfl rfl rfl rfl ?_; refine AList.extract rfl rfl rfl rfl ?_; refine AList.assign rfl rfl rfl ?_; refine AList.assign rfl rfl rfl ?_; refine AList.nil ⟨by kernel_rfl, ?_⟩)
                      | (refine AWp.draw (id := 19) mixed ?_; refine AList.move rfl rfl rfl ?_; refine AList.move rfl rfl rfl ?_; refine AList.idx (k := k) tyOk rfl rfl rfl rfl rfl rfl rfl rfl (by first | rfl | omega) oM oM ?_; refine AList.loadAl tyOk rfl rfl rfl rfl rfl oM ?_; refine AList.loadA tyOk rfl rfl rfl rfl rfl rfl rfl oM oM ?_; refine AList.move rfl rfl rfl ?_; refine AList.move rfl rfl rfl ?_; refine AList.idx (k := k) tyOk rfl rfl rfl rfl rfl rfl rfl rfl (by first | rfl | omega) oM oM ?_; refine AList.loadAl tyOk rfl rfl rfl rfl rfl oM ?_; refine AList.loadA tyOk rfl rfl rfl rfl rfl rfl rfl oM oM ?_; refine AList.call rfl rfl rfl rfl Tryd.func22 rfl (by kernel_rfl) (hCk) ?_; refine AList.move rfl rfl rfl ?_; refine AList.extract rfl rfl rfl rfl ?_; refine AList.extract rfl rfl rfl rfl ?_; refine AList.alloc tyOk rfl rfl rfl rfl rfl ?_; refine AList.store tyOk rfl rfl rfl rfl rfl rfl rfl rfl oM oM ?_; refine AList.assign rfl rfl rfl ?_; refine AList.nil ⟨by kernel_rfl, ?_⟩)
                      | (refine AWp.region (id := 20) ?_; refine AList.move rfl rfl rfl ?_; refine AList.move rfl rfl rfl ?_; refine AList.lenLs tyOk rfl rfl rfl rfl rfl ?_; refine AList.cmpF rfl rfl rfl rfl rfl cmF ?_; refine AList.move rfl rfl rfl ?_; refine AList.skip rfl rfl ?_; refine AList.skip rfl rfl ?_; refine AList.skip rfl rfl ?_; refine AList.skip rfl rfl ?_; refine AList.skip rfl rfl ?_; refine AList.skip rfl rfl ?_; refine AList.pickF rfl rfl rfl rfl ?_; refine AList.assign rfl rfl rfl ?_; refine AList.nil ?_)
                      | (refine AWp.region (id := 21) ?_; refine AList.move rfl rfl rfl ?_; refine AList.move rfl rfl rfl ?_; refine AList.move rfl rfl rfl ?_; refine AList.skip rfl rfl ?_; refine AList.skip rfl rfl ?_; refine AList.pickF rfl rfl rfl rfl ?_; refine AList.neB rfl rfl rfl rfl (by kernel_rfl) ?_; refine AList.move rfl rfl rfl ?_; refine AList.move rfl rfl rfl ?_; refine AList.move rfl rfl rfl ?_; refine AList.skip rfl rfl ?_; refine AList.skip rfl rfl ?_; refine AList.pickF rfl rfl rfl rfl ?_; refine AList.pickF rfl rfl rfl rfl ?_; refine AList.nil ?_)
                      | (refine AWp.region (id := 23) ?_; refine AList.move rfl rfl rfl ?_; refine AList.nil ?_))
                    refine ⟨k + 1, hkm2, Wk.mkG [(14, some 14), (15, some 15)] rfl rfl rfl rfl rfl ?_ ?_, by omega⟩
                    · rw [hsu2]
                      repeat (first | exact trivial | refine ⟨⟨_, rfl, by first | exact LeA.c (LeC.refl _ rfl) | exact LeA.c (LeC.ow _ _ rfl) | exact LeA.c (LeC.pt _ _ _ _ _ rfl) | exact LeA.c (LeC.nil _ rfl) | exact LeA.c (LeC.nils _ _) | (refine LeA.int ?_; omega) | (refine LeA.int ?_; dsimp only; omega) | exact LeA.c (LeC.fz rfl rfl (by first | rfl | omega) (fun i _ j _ => ⟨rfl, by first | rfl | exact rowN_imm (fun _ => rfl) _ i j | exact rowF_imm (fun _ => rfl) _ i j⟩))⟩, ?_⟩)
                    · repeat (first | exact trivial | refine ⟨by first | exact HeapOk.same rfl rfl rfl rfl | exact HeapOk.lent rfl rfl rfl rfl | exact HeapOk.nil rfl rfl | exact HeapOk.row rfl rfl (by first | rfl | omega) (fun i _ j _ => ⟨rfl, by first | rfl | exact rowN_imm (fun _ => rfl) _ i j | exact rowF_imm (fun _ => rfl) _ i j⟩) | exact HeapOk.box rfl rfl (by repeat (first | exact trivial | refine ⟨by first | exact LeC.refl _ rfl | exact LeC.ow _ _ rfl | exact LeC.nil _ rfl | exact LeC.nils _ _ | exact LeC.fz rfl rfl (by first | rfl | omega) (fun i _ j _ => ⟨rfl, by first | rfl | exact rowN_imm (fun _ => rfl) _ i j | exact rowF_imm (fun _ => rfl) _ i j⟩) | exact LeC.int (by omega), ?_⟩)) rfl, ?_⟩)
            · obtain rfl : k = m := by omega
              rw [hNL]
              repeat (first
                | refine AWp.seq ?_)
              refine AWp.cut (mkG (GW Sides) 0 false 159 0 [(9, .c (bC true)), (16, .c (.ls NL.length 1 (iF (nrF NL)))), (17, .c (iC NL.length)), (92, .c (bC false))] [] []) ?_ (fun S2 hw2 => AWp.weak hw2 ?_)
              · by_cases h1 : k < n1
                · have h2 : ¬ k < n2 := by omega
                  repeat (first
                    | (refine AWp.region (id := 16) ?_; refine AList.move rfl rfl rfl ?_; refine AList.move rfl rfl rfl ?_; refine AList.lenLs tyOk rfl rfl rfl rfl rfl ?_; refine AList.cmpT rfl rfl rfl rfl rfl cmT ?_; refine AList.move rfl rfl rfl ?_; refine AList.move rfl rfl rfl ?_; refine AList.move rfl rfl rfl ?_; refine AList.lenLs tyOk rfl rfl rfl rfl rfl ?_; refine AList.cmpF rfl rfl rfl rfl rfl cmF ?_; refine AList.pickT rfl rfl rfl rfl ?_; refine AList.nil ?_))
                  refine ⟨rfl, Wk.mkG [] rfl rfl rfl rfl rfl ?_ trivial⟩
                  repeat (first | exact trivial | refine ⟨⟨_, rfl, by first | exact LeA.c (LeC.refl _ rfl) | exact LeA.c (LeC.ow _ _ rfl) | exact LeA.c (LeC.pt _ _ _ _ _ rfl) | exact LeA.c (LeC.nil _ rfl) | exact LeA.c (LeC.nils _ _) | (refine LeA.int ?_; omega) | (refine LeA.int ?_; dsimp only; omega) | exact LeA.c (LeC.fz rfl rfl (by first | rfl | omega) (fun i _ j _ => ⟨rfl, by first | rfl | exact rowN_imm (fun _ => rfl) _ i j | exact rowF_imm (fun _ => rfl) _ i j⟩))⟩, ?_⟩)
                · repeat (first
                    | (refine AWp.region (id := 16) ?_; refine AList.move rfl rfl rfl ?_; refine AList.move rfl rfl rfl ?_; refine AList.lenLs tyOk rfl rfl rfl rfl rfl ?_; refine AList.cmpF rfl rfl rfl rfl rfl cmF ?_; refine AList.move rfl rfl rfl ?_; refine AList.skip rfl rfl ?_; refine AList.skip rfl rfl ?_; refine AList.skip rfl rfl ?_; refine AList.skip rfl rfl ?_; refine AList.pickF rfl rfl rfl rfl ?_; refine AList.nil ?_))
                  refine ⟨rfl, Wk.mkG [] rfl rfl rfl rfl rfl ?_ trivial⟩
                  repeat (first | exact trivial | refine ⟨⟨_, rfl, by first | exact LeA.c (LeC.refl _ rfl) | exact LeA.c (LeC.ow _ _ rfl) | exact LeA.c (LeC.pt _ _ _ _ _ rfl) | exact LeA.c (LeC.nil _ rfl) | exact LeA.c (LeC.nils _ _) | (refine LeA.int ?_; omega) | (refine LeA.int ?_; dsimp only; omega) | exact LeA.c (LeC.fz rfl rfl (by first | rfl | omega) (fun i _ j _ => ⟨rfl, by first | rfl | exact rowN_imm (fun _ => rfl) _ i j | exact rowF_imm (fun _ => rfl) _ i j⟩))⟩, ?_⟩)
              repeat (first
                | refine AWp.seq ?_
                | refine thenA_n ?_
                | refine AWp.exit ?_
                | refine AWp.ret ?_
                | refine AWp.condF rfl (by first | rfl | assumption | exact cmF) ?_
                | (refine AWp.region (id := 25) ?_; refine AList.move rfl rfl rfl ?_; refine AList.move rfl rfl rfl ?_; refine AList.move rfl rfl rfl ?_; refine AList.move rfl rfl rfl ?_; refine AList.lenLs tyOk rfl rfl rfl rfl rfl ?_; refine AList.cmpT rfl rfl rfl rfl rfl (by simp only [cmpP, eq_self, decide_true]) ?_; refine AList.pickT rfl rfl rfl rfl ?_; refine AList.assign rfl rfl rfl ?_; refine AList.nil ?_))
              refine ⟨_, rfl, ?_⟩
              refine ⟨mkSt 159 [(8, .c (bC true))] [] [], [], Wk.mk [] rfl rfl rfl ?_ trivial (hG := fun _ h => h.1), rfl, rfl, ARets.one (x := .c _) (ARes.tmp rfl rfl)⟩
              repeat (first | exact trivial | refine ⟨⟨_, rfl, by first | exact LeA.c (LeC.refl _ rfl) | exact LeA.c (LeC.ow _ _ rfl) | exact LeA.c (LeC.pt _ _ _ _ _ rfl) | exact LeA.c (LeC.nil _ rfl) | exact LeA.c (LeC.nils _ _) | (refine LeA.int ?_; omega) | (refine LeA.int ?_; dsimp only; omega) | exact LeA.c (LeC.fz rfl rfl (by first | rfl | omega) (fun i _ j _ => ⟨rfl, by first | rfl | exact rowN_imm (fun _ => rfl) _ i j | exact rowF_imm (fun _ => rfl) _ i j⟩))⟩, ?_⟩)
end Go.Proofs.YtfgcogkhnnflcaaDoor
end
