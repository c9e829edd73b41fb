/- Parts of the proof: A24m. -/
import Derived.Test.YtfgcogkhnnflcaaDoorG18
import Derived.Test.YtfgcogkhnnflcaaDoorHA26nbc13
import Derived.Test.YtfgcogkhnnflcaaDoorG17
import Derived.Test.YtfgcogkhnnflcaaDoorHA26nbc12
import Derived.Test.YtfgcogkhnnflcaaDoorHA26nbc04
import Derived.Test.YtfgcogkhnnflcaaDoorG12
import Derived.Test.YtfgcogkhnnflcaaDoorG16
import Derived.Test.YtfgcogkhnnflcaaDoorHA26nbc10
import Derived.Shelf.Abstract
import Derived.Test.YtfgcogkhnnflcaaDoorHA26nbc09
import Derived.Test.YtfgcogkhnnflcaaDoorProg
import Derived.Test.YtfgcogkhnnflcaaDoorG02
import Derived.Test.YtfgcogkhnnflcaaDoorG11
import Derived.Laws.Cover3
import Derived.Test.YtfgcogkhnnflcaaDoorHA26nbc08
import Derived.Test.YtfgcogkhnnflcaaDoorHA26nbc11
import Derived.Test.YtfgcogkhnnflcaaDoorG01
import Derived.RangeFuncNested
import Derived.Test.YtfgcogkhnnflcaaDoorHA26nbc07
import Derived.Test.YtfgcogkhnnflcaaDoorG14
import Derived.Test.YtfgcogkhnnflcaaDoorHA26nbc01
import Derived.WalkKit
import Derived.Test.YtfgcogkhnnflcaaDoorHA26nbc03
import Derived.Laws.StructEq
import Derived.Test.YtfgcogkhnnflcaaDoorHA26nbc06
import Derived.Test.YtfgcogkhnnflcaaDoorG05
import Derived.Test.YtfgcogkhnnflcaaDoorG13
import Derived.Lib.Hide
import Derived.Deep.QuietTactic
import Derived.BigQuiet
import Derived.Deep.DrawnRows
import Derived.Test.YtfgcogkhnnflcaaDoorHA26nbc05
import Derived.Test.YtfgcogkhnnflcaaDoorG06
import Derived.Test.YtfgcogkhnnflcaaDoorG04
import Derived.Deep.AppendLies
import Derived.Maps.AppendAt
import Derived.OwnWalk
import Derived.StillTail
import Derived.Below
import Derived.Deep.Draws
import Derived.KernelRfl
import Derived.Test.YtfgcogkhnnflcaaDoorG10
import Derived.Test.YtfgcogkhnnflcaaDoorG15
import Derived.Test.YtfgcogkhnnflcaaDoorHA26nbc02
import Derived.Great.BuildSlice
import Derived.Test.YtfgcogkhnnflcaaDoorG09
import Derived.RangeFuncLeaves
import Derived.RangeFuncRecord
import Derived.Test.YtfgcogkhnnflcaaDoorG08
import Derived.OrdersIn
import Derived.TacticsIn
import Derived.RangeFuncCalls
set_option linter.unusedSimpArgs false
set_option linter.unusedVariables false
section
namespace Go.Proofs.YtfgcogkhnnflcaaDoor
open Go.RowKit Go.Flow Go.AV Go.Plain
theorem LeC.fzP {h : Nat → Option AB} {ren : List (Nat × Option Nat)} {o sz : Nat} {ty : TypeId} {F : Nat → Nat → CV} {l : List CV} (hh : h o = some ⟨false, 1, sz, ty, F⟩) (hr : renNo ren o = true) (hc : cellsFrom (F 0) 0 sz = l) (hi : l.all immC = true) : LeC h ren (.pt o sz 0 0) (.pl 1 sz (lF l) 0 0) :=
  .frzP o 1 sz 0 0 false ty F (lF l) hh (by omega) (fun k hk j hj => by rw [lendBox_eq hc k hk j hj]; exact lF_imm hi k j) (fun k hk j hj => lendBox_eq hc k hk j hj) (renNo_at hr) (renNo_lt hr)
theorem AWp.join3 {P : Program} {x y : Code} {Q : Exit → St → Prop} {S : St} (S1 : St) (h : AWp P x (thenA (AWp P y (fun e S' => e = .normal ∧ Wk S' S1)) (fun e S' => e = .normal ∧ Wk S' S1)) S) (hz : ∀ S', Wk S' S1 → Q .normal S') :
    AWp P x (thenA (AWp P y Q) Q) S := h.mono fun e S' h => by
  cases e with
  | normal => exact AWp.mono h fun e S' ⟨he, hw⟩ => by subst he; exact hz S' hw
  | _ => cases h.1
abbrev addC (i : Nat) : CV := [CV.pt 5 1 0 0, CV.pt 6 2 0 0].getD i .any
theorem le_add {h : Nat → Option AB} {ren : List (Nat × Option Nat)} {C : Nat → CV} (hc : ∀ i, C i = addC i) (h5 : assoc ren 5 = some (some 5)) (h6 : assoc ren 6 = some (some 6)) : LeC h ren (.fn 54 2 C) (.fn 54 2 addC) := by
  obtain rfl : C = addC := funext hc
  refine LeC.fn _ _ _ _ (fun i hi => ?_) (fun i hi => ?_)
  · obtain rfl | rfl : i = 0 ∨ i = 1 := by omega
    · exact ⟨trivial, trivial⟩
    · exact ⟨trivial, trivial⟩
  · obtain rfl | rfl : i = 0 ∨ i = 1 := by omega
    · exact .pt 5 5 1 0 0 h5
    · exact .pt 6 6 2 0 0 h6
/-- What strips returns: the iterator with what it has captured. -/
abbrev itC (a b : Bp) (x y : Bg) (n : Nat) (c0 c1 : Nat → Int) (t0 t1 : Int) (i : Nat) : CV :=
  [CV.pl 1 14 (lF (prC a b (lim4 x) (lim4 y))) 0 0, CV.pl 1 1 (lF [.ls n 2 (cF c0 c1)]) 0 0, CV.pl 1 2 (lF [iC t0, iC t1]) 0 0].getD i .any
set_option maxHeartbeats 8000000 in
set_option maxRecDepth 100000 in
theorem strips_A (a b : Bp) (x y : Bg) (d : Int × Int) (Wn Hn : Nat) (ha : chk a.W a.H a.n = 0) (hb : chk b.W b.H b.n = 0) (hWn : a.W = Wn) (hHn : a.H = Hn) (hWb : b.W = a.W) (hHb : b.H = a.H) (hd : (-4 ≤ d.1 ∧ d.1 ≤ 4) ∧ -4 ≤ d.2 ∧ d.2 ≤ 4) :
    ACalls Tryd.prog 40 [.ag (prC a b (lim4 x) (lim4 y)), .ag (mvC d)]
      (.c (.fn 56 3 (itC a b x y (Wn + 40) (colP (alB a b d.1 d.2) Wn 0 Hn 0) (colP (alB b a (-d.1) (-d.2)) Wn d.1 Hn 0) (totP (alB a b d.1 d.2) Wn Hn 0) (totP (alB b a (-d.1) (-d.2)) Wn Hn 0)))) := by
  obtain ⟨hw0, hw1, hh0, hh1, hn⟩ := okB ha
  obtain ⟨-, -, -, -, hnb⟩ := okB hb
  rw [hWb, hHb] at hnb
  rw [hWn, hHn] at hn hnb
  obtain ⟨A0, hA0⟩ : ∃ A0, alB a b d.1 d.2 = A0 := ⟨_, rfl⟩
  obtain ⟨A1, hA1⟩ : ∃ A1, alB b a (-d.1) (-d.2) = A1 := ⟨_, rfl⟩
  rw [hA0, hA1]
  obtain ⟨n, hnn⟩ : ∃ n, Wn + 40 = n := ⟨_, rfl⟩
  rw [hnn]
  have hW96 : Wn ≤ 96 := by omega
  have hH96 : Hn ≤ 96 := by omega
  refine acalls_at Tryd.func40 rfl rfl Tryd.ntmps40 rfl ?_
  repeat (first
    | refine AWp.seq ?_
    | refine thenA_n ?_
    | refine AWp.block ?_
    | (refine AWp.region (id := 0) ?_; refine AList.box rfl rfl rfl rfl rfl ?_; refine AList.box rfl rfl rfl rfl rfl ?_; refine AList.assign rfl rfl rfl ?_; refine AList.nil ?_)
    | (refine AWp.region (id := 1) ?_; refine AList.fieldPt tyOk rfl rfl rfl rfl rfl rfl rfl ?_; refine AList.fieldPt tyOk rfl rfl rfl rfl rfl rfl rfl ?_; refine AList.load1 tyOk rfl rfl rfl rfl rfl rfl rfl oM oM ?_; refine AList.add rfl rfl rfl rfl (by omega) (by omega) ?_; refine AList.add rfl rfl rfl rfl (by omega) (by omega) ?_; refine AList.makeSl (n := n) tyOk rfl rfl rfl rfl rfl rfl rfl rfl rfl (by first | rfl | omega) (by first | rfl | omega) oM oM ?_; refine AList.alloc tyOk rfl rfl rfl rfl rfl ?_; refine AList.store tyOk rfl rfl rfl rfl rfl rfl rfl rfl oM oM ?_; refine AList.nil ?_)
    | (refine AWp.region (id := 2) ?_; refine AList.alloc tyOk rfl rfl rfl rfl rfl ?_; refine AList.nil ?_)
    | (refine AWp.region (id := 3) ?_; refine AList.makeFn rfl rfl rfl rfl rfl ?_; refine AList.assign rfl rfl rfl ?_; refine AList.nil ?_)
    | (refine AWp.region (id := 4) ?_; refine AList.fieldPt tyOk rfl rfl rfl rfl rfl rfl rfl ?_; refine AList.fieldPt tyOk rfl rfl rfl rfl rfl rfl rfl ?_; refine AList.load1 tyOk rfl rfl rfl rfl rfl rfl rfl oM oM ?_; refine AList.move rfl rfl rfl ?_; refine AList.nil ?_))
  refine AWp.round (fun r : Nat => mkSt 93 [(2, .c (.pt 2 14 0 0)), (3, .c (.pt 3 2 0 0)), (5, .c (.pt 5 1 0 0)), (6, .c (.pt 6 2 0 0)), (7, .c (.fn 54 2 addC)), (19, .c (iC Hn)), (20, .c (iC r))] [(2, ⟨false, 1, 14, 85, lF (prC a b (lim4 x) (lim4 y))⟩), (3, ⟨false, 1, 2, 89, lF (mvC d)⟩), (5, sB 15), (15, cB n (colP A0 Wn 0 r 0) (colP A1 Wn d.1 r 0)), (6, tB (totP A0 Wn r 0) (totP A1 Wn r 0))] [2, 3, 5, 15, 6])
    (fun r => r ≤ Hn) (fun r => Hn - r) 0 (Nat.zero_le _) ?_ (fun r hr => ?_)
  · refine Wk.mk [(2, some 2), (3, some 3), (5, some 5), (15, some 15), (6, some 6)] rfl rfl rfl ?_ ?_
    · repeat (first | exact trivial | refine ⟨⟨_, rfl, by first | exact LeA.c (le_add (fun i => rfl) rfl rfl) | exact LeA.c (LeC.refl _ rfl) | exact LeA.c (LeC.ow _ _ rfl) | exact LeA.c (LeC.pt _ _ _ _ _ rfl) | exact LeA.c (LeC.nil _ rfl) | exact LeA.c (LeC.nils _ _) | (refine LeA.int ?_; omega) | (refine LeA.int ?_; dsimp only; omega) | exact LeA.c (LeC.fz rfl rfl (by first | rfl | omega) (fun i _ j _ => ⟨rfl, by first | rfl | exact rowN_imm (fun _ => rfl) _ i j | exact rowF_imm (fun _ => rfl) _ i j⟩))⟩, ?_⟩)
    · refine ⟨HeapOk.same rfl rfl rfl rfl, HeapOk.same rfl rfl rfl rfl, HeapOk.box rfl rfl ⟨LeC.ow _ _ rfl, trivial⟩ rfl, HeapOk.row rfl rfl rfl (fun k _ j hj => ?_), HeapOk.same rfl rfl rfl rfl, trivial⟩
      rw [show colP A0 Wn 0 0 0 = fun _ => 0 from funext fun k => colP_zero _ _ _ k, show colP A1 Wn d.1 0 0 = fun _ => 0 from funext fun k => colP_zero _ _ _ k, ← zF_cF k j hj]
      exact ⟨rfl, by rw [zF_cF k j hj]; exact cF_imm _ _ k j⟩
  · by_cases hrl : r < Hn
    · have hrow0 := colP_row A0 Wn 0 r
      have hrow1 := colP_row A1 Wn d.1 r
      have hrt0 := totP_row A0 Wn r
      have hrt1 := totP_row A1 Wn r
      repeat (first
        | refine AWp.seq ?_
        | refine thenA_n ?_
        | refine AWp.block ?_
        | refine AWp.skip ?_
        | refine AWp.condT rfl (by first | rfl | assumption | exact cmT) ?_
        | (refine AWp.region (id := 5) ?_; refine AList.cmpT rfl rfl rfl rfl rfl cmT ?_; refine AList.nil ?_)
        | (refine AWp.region (id := 6) ?_; refine AList.move rfl rfl rfl ?_; refine AList.assign rfl rfl rfl ?_; refine AList.nil ?_)
        | (refine AWp.region (id := 7) ?_; refine AList.fieldPt tyOk rfl rfl rfl rfl rfl rfl rfl ?_; refine AList.fieldPt tyOk rfl rfl rfl rfl rfl rfl rfl ?_; refine AList.load1 tyOk rfl rfl rfl rfl rfl rfl rfl oM oM ?_; refine AList.move rfl rfl rfl ?_; refine AList.nil ?_))
      refine AWp.round (fun c : Nat => mkSt 93 [(2, .c (.pt 2 14 0 0)), (3, .c (.pt 3 2 0 0)), (5, .c (.pt 5 1 0 0)), (6, .c (.pt 6 2 0 0)), (7, .c (.fn 54 2 addC)), (8, .c (iC r)), (19, .c (iC Hn)), (20, .c (iC r)), (25, .c (iC Wn)), (26, .c (iC c))] [(2, ⟨false, 1, 14, 85, lF (prC a b (lim4 x) (lim4 y))⟩), (3, ⟨false, 1, 2, 89, lF (mvC d)⟩), (5, sB 15), (15, cB n (colP A0 Wn 0 r c) (colP A1 Wn d.1 r c)), (6, tB (totP A0 Wn r c) (totP A1 Wn r c))] [2, 3, 5, 15, 6])
        (fun c => c ≤ Wn) (fun c => Wn - c) 0 (Nat.zero_le _) ?_ (fun c hc => ?_)
      · refine Wk.mk [(2, some 2), (3, some 3), (5, some 5), (15, some 15), (6, some 6)] rfl rfl rfl ?_ ?_
        · repeat (first | exact trivial | refine ⟨⟨_, rfl, by first | exact LeA.c (le_add (fun i => rfl) rfl rfl) | exact LeA.c (LeC.refl _ rfl) | exact LeA.c (LeC.ow _ _ rfl) | exact LeA.c (LeC.pt _ _ _ _ _ rfl) | exact LeA.c (LeC.nil _ rfl) | exact LeA.c (LeC.nils _ _) | (refine LeA.int ?_; omega) | (refine LeA.int ?_; dsimp only; omega) | exact LeA.c (LeC.fz rfl rfl (by first | rfl | omega) (fun i _ j _ => ⟨rfl, by first | rfl | exact rowN_imm (fun _ => rfl) _ i j | exact rowF_imm (fun _ => rfl) _ i j⟩))⟩, ?_⟩)
        · refine ⟨HeapOk.same rfl rfl rfl rfl, HeapOk.same rfl rfl rfl rfl, HeapOk.box rfl rfl ⟨LeC.ow _ _ rfl, trivial⟩ rfl, HeapOk.row rfl rfl rfl (fun k _ j _ => ⟨rfl, cF_imm _ _ k j⟩), HeapOk.same rfl rfl rfl rfl, trivial⟩
      · by_cases hcl : c < Wn
        · obtain ⟨p, hp⟩ : ∃ p, r * Wn + c = p := ⟨_, rfl⟩
          have hpi : (r : Int) * a.W + (c : Int) = (p : Int) := by rw [← hp, hWn]; simp
          have hpi2 : (r : Int) * b.W + (c : Int) = (p : Int) := by rw [hWb]; exact hpi
          have hrW : (0 : Int) ≤ (r : Int) * a.W := Int.mul_nonneg (by omega) (by omega)
          have hpl : r * Wn + Wn ≤ Wn * Hn := by
            have := Nat.mul_le_mul_right Wn (show r + 1 ≤ Hn by omega)
            rw [Nat.succ_mul, Nat.mul_comm Hn] at this
            exact this
          have hWH : (Wn * Hn : Nat) ≤ 9216 := Nat.mul_le_mul hW96 hH96
          have hna : a.n = Wn * Hn := by omega
          have hnb' : b.n = Wn * Hn := by omega
          have hGb := bGet_A b.W b.H b.n b.d ((c : Int) - d.1) ((r : Int) - d.2) hb
          have hGa := bGet_A a.W a.H a.n a.d ((c : Int) + d.1) ((r : Int) + d.2) ha
          have hv0 : A0 r c = (a.d p && !hasB b.W b.H b.d ((c : Int) - d.1) ((r : Int) - d.2)) := by
            rw [← hA0]
            show (hasB a.W a.H a.d c r && !hasB b.W b.H b.d ((c : Int) - d.1) ((r : Int) - d.2)) = _
            rw [hasB_in (by omega) (by omega) (by omega) (by omega), hpi, Int.toNat_natCast]
          have hv1 : A1 r c = (b.d p && !hasB a.W a.H a.d ((c : Int) + d.1) ((r : Int) + d.2)) := by
            rw [← hA1]
            show (hasB b.W b.H b.d c r && !hasB a.W a.H a.d ((c : Int) - -d.1) ((r : Int) - -d.2)) = _
            rw [hasB_in (by omega) (by omega) (by omega) (by omega), hpi2, Int.toNat_natCast, Int.sub_neg, Int.sub_neg]
          obtain ⟨k1, hk1⟩ := Int.eq_ofNat_of_zero_le (show 0 ≤ (c : Int) + d.1 + 4 by omega)
          have b0 := colP_bd A0 Wn 0 r c (c + 4)
          have b1 := colP_bd A1 Wn d.1 r c k1
          have b2 := totP_bd A0 Wn r c hW96 (by omega)
          have b3 := totP_bd A1 Wn r c hW96 (by omega)
          have s0 := fun (h : A0 r c = true) => colP_step (s := 0) h hcl (show ((c + 4 : Nat) : Int) = c + 4 + 0 by omega)
          have s1 := fun (h : A1 r c = true) => colP_step (s := d.1) h hcl (show ((k1 : Nat) : Int) = c + 4 + d.1 by omega)
          have n0 := fun (h : A0 r c = false) => colP_skip (W := Wn) (s := 0) h
          have n1 := fun (h : A1 r c = false) => colP_skip (W := Wn) (s := d.1) h
          have u0 := fun (h : A0 r c = true) => totP_step (W := Wn) h
          have u1 := fun (h : A1 r c = true) => totP_step (W := Wn) h
          have v0 := fun (h : A0 r c = false) => totP_skip (W := Wn) h
          have v1 := fun (h : A1 r c = false) => totP_skip (W := Wn) h
          obtain ⟨c0n, hc0n⟩ : ∃ q, colP A0 Wn 0 r (c + 1) = q := ⟨_, rfl⟩
          obtain ⟨c1n, hc1n⟩ : ∃ q, colP A1 Wn d.1 r (c + 1) = q := ⟨_, rfl⟩
          obtain ⟨t0n, ht0n⟩ : ∃ q, totP A0 Wn r (c + 1) = q := ⟨_, rfl⟩
          obtain ⟨t1n, ht1n⟩ : ∃ q, totP A1 Wn r (c + 1) = q := ⟨_, rfl⟩
          rw [hc0n] at s0 n0
          rw [hc1n] at s1 n1
          rw [ht0n] at u0 v0
          rw [ht1n] at u1 v1
          obtain ⟨c0, hc0⟩ : ∃ q, colP A0 Wn 0 r c = q := ⟨_, rfl⟩
          obtain ⟨c1, hc1⟩ : ∃ q, colP A1 Wn d.1 r c = q := ⟨_, rfl⟩
          obtain ⟨t0, ht0⟩ : ∃ q, totP A0 Wn r c = q := ⟨_, rfl⟩
          obtain ⟨t1, ht1⟩ : ∃ q, totP A1 Wn r c = q := ⟨_, rfl⟩
          rw [hc0] at s0 n0 b0
          rw [hc1] at s1 n1 b1
          rw [ht0] at u0 v0 b2
          rw [ht1] at u1 v1 b3
          rw [hc0, hc1, ht0, ht1]
          have hK0 : A0 r c = true → HCalls Tryd.prog 54 [.c (iC 0), .c (iC c), .c (.pt 1000 1 0 0), .c (.pt 1002 2 0 0)] [(1000, sB 1001), (1001, cB n c0 c1), (1002, tB t0 t1)] (.tu []) [(1000, sB 1001), (1001, cB n c0n c1), (1002, tB t0n t1)] := fun h => by
            have := add0_H n c0 c1 t0 t1 c (c + 4) (by omega) (by omega) (by omega) ⟨b0.1, by omega⟩ ⟨b2.1, by omega⟩
            rw [s0 h, u0 h] at this
            exact this
          have hK1 : A1 r c = true → HCalls Tryd.prog 54 [.c (iC 1), .c (iC ((c : Int) + d.1)), .c (.pt 1000 1 0 0), .c (.pt 1002 2 0 0)] [(1000, sB 1001), (1001, cB n c0n c1), (1002, tB t0n t1)] (.tu []) [(1000, sB 1001), (1001, cB n c0n c1n), (1002, tB t0n t1n)] := fun h => by
            have := add1_H n c0n c1 t0n t1 ((c : Int) + d.1) k1 (by omega) (by omega) (by omega) ⟨b1.1, by omega⟩ ⟨b3.1, by omega⟩
            rw [s1 h, u1 h] at this
            exact this
          clear s0 s1 u0 u1 hA0 hA1 hrow0 hrow1 hrt0 hrt1
          repeat (first
            | refine AWp.seq ?_
            | refine AWp.block ?_
            | refine AWp.skip ?_
            | refine AWp.condT rfl (by first | rfl | assumption | exact cmT) ?_
            | (refine AWp.region (id := 8) ?_; refine AList.cmpT rfl rfl rfl rfl rfl cmT ?_; refine AList.nil ?_)
            | (refine AWp.region (id := 9) ?_; refine AList.move rfl rfl rfl ?_; refine AList.assign rfl rfl rfl ?_; refine AList.nil ?_))
          refine AWp.join2 (mkSt 93 [(2, .c (.pt 2 14 0 0)), (3, .c (.pt 3 2 0 0)), (5, .c (.pt 5 1 0 0)), (6, .c (.pt 6 2 0 0)), (7, .c (.fn 54 2 addC)), (8, .c (iC r)), (9, .c (iC c)), (19, .c (iC Hn)), (20, .c (iC r)), (25, .c (iC Wn)), (26, .c (iC c))] [(2, ⟨false, 1, 14, 85, lF (prC a b (lim4 x) (lim4 y))⟩), (3, ⟨false, 1, 2, 89, lF (mvC d)⟩), (5, sB 15), (15, cB n c0n c1), (6, tB t0n t1)] [2, 3, 5, 15, 6]) ?_ ?_
          · cases hd0 : a.d p with
            | false =>
              have hv : A0 r c = false := by rw [hv0, hd0]; rfl
              have q0 := n0 hv
              have q1 := v0 hv
              subst q0 q1
              repeat (first
                | refine thenA_n ?_
                | refine AWp.skip ?_
                | refine AWp.condF rfl (by first | rfl | assumption | exact cmF) ?_
                | (refine AWp.region (id := 10) ?_; refine AList.fieldPt tyOk rfl rfl rfl rfl rfl rfl rfl ?_; refine AList.fieldPt tyOk rfl rfl rfl rfl rfl rfl rfl ?_; refine AList.load1 tyOk rfl rfl rfl rfl rfl rfl rfl oM oM ?_; refine AList.move rfl rfl rfl ?_; refine AList.fieldPt tyOk rfl rfl rfl rfl rfl rfl rfl ?_; refine AList.fieldPt tyOk rfl rfl rfl rfl rfl rfl rfl ?_; refine AList.load1 tyOk rfl rfl rfl rfl rfl rfl rfl oM oM ?_; refine AList.mul rfl rfl rfl rfl (by omega) (by omega) ?_; refine AList.move rfl rfl rfl ?_; refine AList.add rfl rfl rfl rfl (by omega) (by omega) ?_; refine AList.idx (k := p) tyOk rfl rfl rfl rfl rfl rfl rfl rfl (by first | rfl | omega) oM oM ?_; refine AList.load1lE tyOk (congrArg (fun q => CV.p (.bool q)) hd0) rfl rfl rfl rfl rfl oM ?_; refine AList.move rfl rfl rfl ?_; refine AList.skip rfl rfl ?_; refine AList.skip rfl rfl ?_; refine AList.skip rfl rfl ?_; refine AList.skip rfl rfl ?_; refine AList.skip rfl rfl ?_; refine AList.skip rfl rfl ?_; refine AList.skip rfl rfl ?_; refine AList.skip rfl rfl ?_; refine AList.skip rfl rfl ?_; refine AList.skip rfl rfl ?_; refine AList.skip rfl rfl ?_; refine AList.skip rfl rfl ?_; refine AList.pickF rfl rfl rfl rfl ?_; refine AList.nil ?_))
              refine ⟨rfl, Wk.mk [(2, some 2), (3, some 3), (5, some 5), (15, some 15), (6, some 6)] rfl rfl rfl ?_ ?_⟩
              · repeat (first | exact trivial | refine ⟨⟨_, rfl, by first | exact LeA.c (le_add (fun i => rfl) rfl rfl) | exact LeA.c (LeC.refl _ rfl) | exact LeA.c (LeC.ow _ _ rfl) | exact LeA.c (LeC.pt _ _ _ _ _ rfl) | exact LeA.c (LeC.nil _ rfl) | exact LeA.c (LeC.nils _ _) | (refine LeA.int ?_; omega) | (refine LeA.int ?_; dsimp only; omega) | exact LeA.c (LeC.fz rfl rfl (by first | rfl | omega) (fun i _ j _ => ⟨rfl, by first | rfl | exact rowN_imm (fun _ => rfl) _ i j | exact rowF_imm (fun _ => rfl) _ i j⟩))⟩, ?_⟩)
              · refine ⟨HeapOk.same rfl rfl rfl rfl, HeapOk.same rfl rfl rfl rfl, HeapOk.box rfl rfl ⟨LeC.ow _ _ rfl, trivial⟩ rfl, HeapOk.row rfl rfl rfl (fun k _ j _ => ⟨rfl, cF_imm _ _ k j⟩), HeapOk.same rfl rfl rfl rfl, trivial⟩
            | true =>
              cases hg0 : hasB b.W b.H b.d ((c : Int) - d.1) ((r : Int) - d.2) with
              | true =>
                rw [hg0] at hGb
                have hv : A0 r c = false := by rw [hv0, hd0, hg0]; rfl
                have q0 := n0 hv
                have q1 := v0 hv
                subst q0 q1
                repeat (first
                  | refine thenA_n ?_
                  | refine AWp.skip ?_
                  | refine AWp.condF rfl (by first | rfl | assumption | exact cmF) ?_
                  | (refine AWp.region (id := 10) ?_; refine AList.fieldPt tyOk rfl rfl rfl rfl rfl rfl rfl ?_; refine AList.fieldPt tyOk rfl rfl rfl rfl rfl rfl rfl ?_; refine AList.load1 tyOk rfl rfl rfl rfl rfl rfl rfl oM oM ?_; refine AList.move rfl rfl rfl ?_; refine AList.fieldPt tyOk rfl rfl rfl rfl rfl rfl rfl ?_; refine AList.fieldPt tyOk rfl rfl rfl rfl rfl rfl rfl ?_; refine AList.load1 tyOk rfl rfl rfl rfl rfl rfl rfl oM oM ?_; refine AList.mul rfl rfl rfl rfl (by omega) (by omega) ?_; refine AList.move rfl rfl rfl ?_; refine AList.add rfl rfl rfl rfl (by omega) (by omega) ?_; refine AList.idx (k := p) tyOk rfl rfl rfl rfl rfl rfl rfl rfl (by first | rfl | omega) oM oM ?_; refine AList.load1lE tyOk (congrArg (fun q => CV.p (.bool q)) hd0) rfl rfl rfl rfl rfl oM ?_; refine AList.move rfl rfl rfl ?_; refine AList.fieldPt tyOk rfl rfl rfl rfl rfl rfl rfl ?_; refine AList.loadA tyOk rfl rfl rfl rfl rfl rfl rfl oM oM ?_; refine AList.move rfl rfl rfl ?_; refine AList.fieldPt tyOk rfl rfl rfl rfl rfl rfl rfl ?_; refine AList.load1 tyOk rfl rfl rfl rfl rfl rfl rfl oM oM ?_; refine AList.sub rfl rfl rfl rfl (by omega) (by omega) ?_; refine AList.move rfl rfl rfl ?_; refine AList.fieldPt tyOk rfl rfl rfl rfl rfl rfl rfl ?_; refine AList.load1 tyOk rfl rfl rfl rfl rfl rfl rfl oM oM ?_; refine AList.sub rfl rfl rfl rfl (by omega) (by omega) ?_; refine AList.call rfl rfl rfl rfl Tryd.func55 rfl (by kernel_rfl) (hGb) ?_; refine AList.notB rfl rfl rfl ?_; refine AList.pickT rfl rfl rfl rfl ?_; refine AList.nil ?_))
                refine ⟨rfl, Wk.mk [(2, some 2), (3, some 3), (5, some 5), (15, some 15), (6, some 6)] rfl rfl rfl ?_ ?_⟩
                · repeat (first | exact trivial | refine ⟨⟨_, rfl, by first | exact LeA.c (le_add (fun i => rfl) rfl rfl) | exact LeA.c (LeC.refl _ rfl) | exact LeA.c (LeC.ow _ _ rfl) | exact LeA.c (LeC.pt _ _ _ _ _ rfl) | exact LeA.c (LeC.nil _ rfl) | exact LeA.c (LeC.nils _ _) | (refine LeA.int ?_; omega) | (refine LeA.int ?_; dsimp only; omega) | exact LeA.c (LeC.fz rfl rfl (by first | rfl | omega) (fun i _ j _ => ⟨rfl, by first | rfl | exact rowN_imm (fun _ => rfl) _ i j | exact rowF_imm (fun _ => rfl) _ i j⟩))⟩, ?_⟩)
                · refine ⟨HeapOk.same rfl rfl rfl rfl, HeapOk.same rfl rfl rfl rfl, HeapOk.box rfl rfl ⟨LeC.ow _ _ rfl, trivial⟩ rfl, HeapOk.row rfl rfl rfl (fun k _ j _ => ⟨rfl, cF_imm _ _ k j⟩), HeapOk.same rfl rfl rfl rfl, trivial⟩
              | false =>
                rw [hg0] at hGb
                have hv : A0 r c = true := by rw [hv0, hd0, hg0]; rfl
                repeat (first
                  | refine thenA_n ?_
                  | refine AWp.condT rfl (by first | rfl | assumption | exact cmT) ?_
                  | (refine AWp.region (id := 10) ?_; refine AList.fieldPt tyOk rfl rfl rfl rfl rfl rfl rfl ?_; refine AList.fieldPt tyOk rfl rfl rfl rfl rfl rfl rfl ?_; refine AList.load1 tyOk rfl rfl rfl rfl rfl rfl rfl oM oM ?_; refine AList.move rfl rfl rfl ?_; refine AList.fieldPt tyOk rfl rfl rfl rfl rfl rfl rfl ?_; refine AList.fieldPt tyOk rfl rfl rfl rfl rfl rfl rfl ?_; refine AList.load1 tyOk rfl rfl rfl rfl rfl rfl rfl oM oM ?_; refine AList.mul rfl rfl rfl rfl (by omega) (by omega) ?_; refine AList.move rfl rfl rfl ?_; refine AList.add rfl rfl rfl rfl (by omega) (by omega) ?_; refine AList.idx (k := p) tyOk rfl rfl rfl rfl rfl rfl rfl rfl (by first | rfl | omega) oM oM ?_; refine AList.load1lE tyOk (congrArg (fun q => CV.p (.bool q)) hd0) rfl rfl rfl rfl rfl oM ?_; refine AList.move rfl rfl rfl ?_; refine AList.fieldPt tyOk rfl rfl rfl rfl rfl rfl rfl ?_; refine AList.loadA tyOk rfl rfl rfl rfl rfl rfl rfl oM oM ?_; refine AList.move rfl rfl rfl ?_; refine AList.fieldPt tyOk rfl rfl rfl rfl rfl rfl rfl ?_; refine AList.load1 tyOk rfl rfl rfl rfl rfl rfl rfl oM oM ?_; refine AList.sub rfl rfl rfl rfl (by omega) (by omega) ?_; refine AList.move rfl rfl rfl ?_; refine AList.fieldPt tyOk rfl rfl rfl rfl rfl rfl rfl ?_; refine AList.load1 tyOk rfl rfl rfl rfl rfl rfl rfl oM oM ?_; refine AList.sub rfl rfl rfl rfl (by omega) (by omega) ?_; refine AList.call rfl rfl rfl rfl Tryd.func55 rfl (by kernel_rfl) (hGb) ?_; refine AList.notB rfl rfl rfl ?_; refine AList.pickT rfl rfl rfl rfl ?_; refine AList.nil ?_)
                  | (refine AWp.region (id := 11) ?_; refine AList.move rfl rfl rfl ?_; refine AList.move rfl rfl rfl ?_; refine AList.callC [5, 15, 6] [sB 1001, cB n c0 c1, tB t0 t1] [sB 1001, cB n c0n c1, tB t0n t1] [sB 15, cB n c0n c1, tB t0n t1] rfl rfl rfl rfl rfl Tryd.func54 rfl (by kernel_rfl) (LendOk2.box rfl ⟨LentC.ow rfl, trivial⟩ rfl (LendOk2.row rfl (by omega) (fun k _ j _ => ⟨rfl, cF_imm _ _ k j⟩) (LendOk2.box rfl ⟨LentC.imm rfl, LentC.imm rfl, trivial⟩ rfl trivial))) rfl (BackOk.box ⟨LentC.ow rfl, trivial⟩ rfl rfl (BackOk.row (fun k _ j _ => cF_imm _ _ k j) (BackOk.box ⟨LentC.imm rfl, LentC.imm rfl, trivial⟩ rfl rfl trivial))) (hK0 hv) ?_; refine AList.nil ?_))
                refine ⟨rfl, Wk.mk [(2, some 2), (3, some 3), (5, some 5), (15, some 15), (6, some 6)] rfl rfl rfl ?_ ?_⟩
                · repeat (first | exact trivial | refine ⟨⟨_, rfl, by first | exact LeA.c (le_add (fun i => rfl) rfl rfl) | exact LeA.c (LeC.refl _ rfl) | exact LeA.c (LeC.ow _ _ rfl) | exact LeA.c (LeC.pt _ _ _ _ _ rfl) | exact LeA.c (LeC.nil _ rfl) | exact LeA.c (LeC.nils _ _) | (refine LeA.int ?_; omega) | (refine LeA.int ?_; dsimp only; omega) | exact LeA.c (LeC.fz rfl rfl (by first | rfl | omega) (fun i _ j _ => ⟨rfl, by first | rfl | exact rowN_imm (fun _ => rfl) _ i j | exact rowF_imm (fun _ => rfl) _ i j⟩))⟩, ?_⟩)
                · refine ⟨HeapOk.same rfl rfl rfl rfl, HeapOk.same rfl rfl rfl rfl, HeapOk.box rfl rfl ⟨LeC.ow _ _ rfl, trivial⟩ rfl, HeapOk.row rfl rfl rfl (fun k _ j _ => ⟨rfl, cF_imm _ _ k j⟩), HeapOk.same rfl rfl rfl rfl, trivial⟩
          refine AWp.seq ?_
          refine AWp.join3 (mkSt 93 [(2, .c (.pt 2 14 0 0)), (3, .c (.pt 3 2 0 0)), (5, .c (.pt 5 1 0 0)), (6, .c (.pt 6 2 0 0)), (7, .c (.fn 54 2 addC)), (8, .c (iC r)), (9, .c (iC c)), (19, .c (iC Hn)), (20, .c (iC r)), (25, .c (iC Wn)), (26, .c (iC c))] [(2, ⟨false, 1, 14, 85, lF (prC a b (lim4 x) (lim4 y))⟩), (3, ⟨false, 1, 2, 89, lF (mvC d)⟩), (5, sB 15), (15, cB n c0n c1n), (6, tB t0n t1n)] [2, 3, 5, 15, 6]) ?_ (fun S2 hw2 => AWp.weak hw2 ?_)
          · cases hd1 : b.d p with
            | false =>
              have hv : A1 r c = false := by rw [hv1, hd1]; rfl
              have q0 := n1 hv
              have q1 := v1 hv
              subst q0 q1
              repeat (first
                | refine thenA_n ?_
                | refine AWp.skip ?_
                | refine AWp.condF rfl (by first | rfl | assumption | exact cmF) ?_
                | (refine AWp.region (id := 12) ?_; refine AList.fieldPt tyOk rfl rfl rfl rfl rfl rfl rfl ?_; refine AList.fieldPt tyOk rfl rfl rfl rfl rfl rfl rfl ?_; refine AList.load1 tyOk rfl rfl rfl rfl rfl rfl rfl oM oM ?_; refine AList.move rfl rfl rfl ?_; refine AList.fieldPt tyOk rfl rfl rfl rfl rfl rfl rfl ?_; refine AList.fieldPt tyOk rfl rfl rfl rfl rfl rfl rfl ?_; refine AList.load1 tyOk rfl rfl rfl rfl rfl rfl rfl oM oM ?_; refine AList.mul rfl rfl rfl rfl (by omega) (by omega) ?_; refine AList.move rfl rfl rfl ?_; refine AList.add rfl rfl rfl rfl (by omega) (by omega) ?_; refine AList.idx (k := p) tyOk rfl rfl rfl rfl rfl rfl rfl rfl (by first | rfl | omega) oM oM ?_; refine AList.load1lE tyOk (congrArg (fun q => CV.p (.bool q)) hd1) rfl rfl rfl rfl rfl oM ?_; refine AList.move rfl rfl rfl ?_; refine AList.skip rfl rfl ?_; refine AList.skip rfl rfl ?_; refine AList.skip rfl rfl ?_; refine AList.skip rfl rfl ?_; refine AList.skip rfl rfl ?_; refine AList.skip rfl rfl ?_; refine AList.skip rfl rfl ?_; refine AList.skip rfl rfl ?_; refine AList.skip rfl rfl ?_; refine AList.skip rfl rfl ?_; refine AList.skip rfl rfl ?_; refine AList.skip rfl rfl ?_; refine AList.pickF rfl rfl rfl rfl ?_; refine AList.nil ?_))
              refine ⟨rfl, Wk.mk [(2, some 2), (3, some 3), (5, some 5), (15, some 15), (6, some 6)] rfl rfl rfl ?_ ?_⟩
              · repeat (first | exact trivial | refine ⟨⟨_, rfl, by first | exact LeA.c (le_add (fun i => rfl) rfl rfl) | exact LeA.c (LeC.refl _ rfl) | exact LeA.c (LeC.ow _ _ rfl) | exact LeA.c (LeC.pt _ _ _ _ _ rfl) | exact LeA.c (LeC.nil _ rfl) | exact LeA.c (LeC.nils _ _) | (refine LeA.int ?_; omega) | (refine LeA.int ?_; dsimp only; omega) | exact LeA.c (LeC.fz rfl rfl (by first | rfl | omega) (fun i _ j _ => ⟨rfl, by first | rfl | exact rowN_imm (fun _ => rfl) _ i j | exact rowF_imm (fun _ => rfl) _ i j⟩))⟩, ?_⟩)
              · refine ⟨HeapOk.same rfl rfl rfl rfl, HeapOk.same rfl rfl rfl rfl, HeapOk.box rfl rfl ⟨LeC.ow _ _ rfl, trivial⟩ rfl, HeapOk.row rfl rfl rfl (fun k _ j _ => ⟨rfl, cF_imm _ _ k j⟩), HeapOk.same rfl rfl rfl rfl, trivial⟩
            | true =>
              cases hg1 : hasB a.W a.H a.d ((c : Int) + d.1) ((r : Int) + d.2) with
              | true =>
                rw [hg1] at hGa
                have hv : A1 r c = false := by rw [hv1, hd1, hg1]; rfl
                have q0 := n1 hv
                have q1 := v1 hv
                subst q0 q1
                repeat (first
                  | refine thenA_n ?_
                  | refine AWp.skip ?_
                  | refine AWp.condF rfl (by first | rfl | assumption | exact cmF) ?_
                  | (refine AWp.region (id := 12) ?_; refine AList.fieldPt tyOk rfl rfl rfl rfl rfl rfl rfl ?_; refine AList.fieldPt tyOk rfl rfl rfl rfl rfl rfl rfl ?_; refine AList.load1 tyOk rfl rfl rfl rfl rfl rfl rfl oM oM ?_; refine AList.move rfl rfl rfl ?_; refine AList.fieldPt tyOk rfl rfl rfl rfl rfl rfl rfl ?_; refine AList.fieldPt tyOk rfl rfl rfl rfl rfl rfl rfl ?_; refine AList.load1 tyOk rfl rfl rfl rfl rfl rfl rfl oM oM ?_; refine AList.mul rfl rfl rfl rfl (by omega) (by omega) ?_; refine AList.move rfl rfl rfl ?_; refine AList.add rfl rfl rfl rfl (by omega) (by omega) ?_; refine AList.idx (k := p) tyOk rfl rfl rfl rfl rfl rfl rfl rfl (by first | rfl | omega) oM oM ?_; refine AList.load1lE tyOk (congrArg (fun q => CV.p (.bool q)) hd1) rfl rfl rfl rfl rfl oM ?_; refine AList.move rfl rfl rfl ?_; refine AList.fieldPt tyOk rfl rfl rfl rfl rfl rfl rfl ?_; refine AList.loadA tyOk rfl rfl rfl rfl rfl rfl rfl oM oM ?_; refine AList.move rfl rfl rfl ?_; refine AList.fieldPt tyOk rfl rfl rfl rfl rfl rfl rfl ?_; refine AList.load1 tyOk rfl rfl rfl rfl rfl rfl rfl oM oM ?_; refine AList.add rfl rfl rfl rfl (by omega) (by omega) ?_; refine AList.move rfl rfl rfl ?_; refine AList.fieldPt tyOk rfl rfl rfl rfl rfl rfl rfl ?_; refine AList.load1 tyOk rfl rfl rfl rfl rfl rfl rfl oM oM ?_; refine AList.add rfl rfl rfl rfl (by omega) (by omega) ?_; refine AList.call rfl rfl rfl rfl Tryd.func55 rfl (by kernel_rfl) (hGa) ?_; refine AList.notB rfl rfl rfl ?_; refine AList.pickT rfl rfl rfl rfl ?_; refine AList.nil ?_))
                refine ⟨rfl, Wk.mk [(2, some 2), (3, some 3), (5, some 5), (15, some 15), (6, some 6)] rfl rfl rfl ?_ ?_⟩
                · repeat (first | exact trivial | refine ⟨⟨_, rfl, by first | exact LeA.c (le_add (fun i => rfl) rfl rfl) | exact LeA.c (LeC.refl _ rfl) | exact LeA.c (LeC.ow _ _ rfl) | exact LeA.c (LeC.pt _ _ _ _ _ rfl) | exact LeA.c (LeC.nil _ rfl) | exact LeA.c (LeC.nils _ _) | (refine LeA.int ?_; omega) | (refine LeA.int ?_; dsimp only; omega) | exact LeA.c (LeC.fz rfl rfl (by first | rfl | omega) (fun i _ j _ => ⟨rfl, by first | rfl | exact rowN_imm (fun _ => rfl) _ i j | exact rowF_imm (fun _ => rfl) _ i j⟩))⟩, ?_⟩)
                · refine ⟨HeapOk.same rfl rfl rfl rfl, HeapOk.same rfl rfl rfl rfl, HeapOk.box rfl rfl ⟨LeC.ow _ _ rfl, trivial⟩ rfl, HeapOk.row rfl rfl rfl (fun k _ j _ => ⟨rfl, cF_imm _ _ k j⟩), HeapOk.same rfl rfl rfl rfl, trivial⟩
              | false =>
                rw [hg1] at hGa
                have hv : A1 r c = true := by rw [hv1, hd1, hg1]; rfl
                repeat (first
                  | refine thenA_n ?_
                  | refine AWp.condT rfl (by first | rfl | assumption | exact cmT) ?_
                  | (refine AWp.region (id := 12) ?_; refine AList.fieldPt tyOk rfl rfl rfl rfl rfl rfl rfl ?_; refine AList.fieldPt tyOk rfl rfl rfl rfl rfl rfl rfl ?_; refine AList.load1 tyOk rfl rfl rfl rfl rfl rfl rfl oM oM ?_; refine AList.move rfl rfl rfl ?_; refine AList.fieldPt tyOk rfl rfl rfl rfl rfl rfl rfl ?_; refine AList.fieldPt tyOk rfl rfl rfl rfl rfl rfl rfl ?_; refine AList.load1 tyOk rfl rfl rfl rfl rfl rfl rfl oM oM ?_; refine AList.mul rfl rfl rfl rfl (by omega) (by omega) ?_; refine AList.move rfl rfl rfl ?_; refine AList.add rfl rfl rfl rfl (by omega) (by omega) ?_; refine AList.idx (k := p) tyOk rfl rfl rfl rfl rfl rfl rfl rfl (by first | rfl | omega) oM oM ?_; refine AList.load1lE tyOk (congrArg (fun q => CV.p (.bool q)) hd1) rfl rfl rfl rfl rfl oM ?_; refine AList.move rfl rfl rfl ?_; refine AList.fieldPt tyOk rfl rfl rfl rfl rfl rfl rfl ?_; refine AList.loadA tyOk rfl rfl rfl rfl rfl rfl rfl oM oM ?_; refine AList.move rfl rfl rfl ?_; refine AList.fieldPt tyOk rfl rfl rfl rfl rfl rfl rfl ?_; refine AList.load1 tyOk rfl rfl rfl rfl rfl rfl rfl oM oM ?_; refine AList.add rfl rfl rfl rfl (by omega) (by omega) ?_; refine AList.move rfl rfl rfl ?_; refine AList.fieldPt tyOk rfl rfl rfl rfl rfl rfl rfl ?_; refine AList.load1 tyOk rfl rfl rfl rfl rfl rfl rfl oM oM ?_; refine AList.add rfl rfl rfl rfl (by omega) (by omega) ?_; refine AList.call rfl rfl rfl rfl Tryd.func55 rfl (by kernel_rfl) (hGa) ?_; refine AList.notB rfl rfl rfl ?_; refine AList.pickT rfl rfl rfl rfl ?_; refine AList.nil ?_)
                  | (refine AWp.region (id := 13) ?_; refine AList.move rfl rfl rfl ?_; refine AList.move rfl rfl rfl ?_; refine AList.fieldPt tyOk rfl rfl rfl rfl rfl rfl rfl ?_; refine AList.load1 tyOk rfl rfl rfl rfl rfl rfl rfl oM oM ?_; refine AList.add rfl rfl rfl rfl (by omega) (by omega) ?_; refine AList.callC [5, 15, 6] [sB 1001, cB n c0n c1, tB t0n t1] [sB 1001, cB n c0n c1n, tB t0n t1n] [sB 15, cB n c0n c1n, tB t0n t1n] rfl rfl rfl rfl rfl Tryd.func54 rfl (by kernel_rfl) (LendOk2.box rfl ⟨LentC.ow rfl, trivial⟩ rfl (LendOk2.row rfl (by omega) (fun k _ j _ => ⟨rfl, cF_imm _ _ k j⟩) (LendOk2.box rfl ⟨LentC.imm rfl, LentC.imm rfl, trivial⟩ rfl trivial))) rfl (BackOk.box ⟨LentC.ow rfl, trivial⟩ rfl rfl (BackOk.row (fun k _ j _ => cF_imm _ _ k j) (BackOk.box ⟨LentC.imm rfl, LentC.imm rfl, trivial⟩ rfl rfl trivial))) (hK1 hv) ?_; refine AList.nil ?_))
                refine ⟨rfl, Wk.mk [(2, some 2), (3, some 3), (5, some 5), (15, some 15), (6, some 6)] rfl rfl rfl ?_ ?_⟩
                · repeat (first | exact trivial | refine ⟨⟨_, rfl, by first | exact LeA.c (le_add (fun i => rfl) rfl rfl) | exact LeA.c (LeC.refl _ rfl) | exact LeA.c (LeC.ow _ _ rfl) | exact LeA.c (LeC.pt _ _ _ _ _ rfl) | exact LeA.c (LeC.nil _ rfl) | exact LeA.c (LeC.nils _ _) | (refine LeA.int ?_; omega) | (refine LeA.int ?_; dsimp only; omega) | exact LeA.c (LeC.fz rfl rfl (by first | rfl | omega) (fun i _ j _ => ⟨rfl, by first | rfl | exact rowN_imm (fun _ => rfl) _ i j | exact rowF_imm (fun _ => rfl) _ i j⟩))⟩, ?_⟩)
                · refine ⟨HeapOk.same rfl rfl rfl rfl, HeapOk.same rfl rfl rfl rfl, HeapOk.box rfl rfl ⟨LeC.ow _ _ rfl, trivial⟩ rfl, HeapOk.row rfl rfl rfl (fun k _ j _ => ⟨rfl, cF_imm _ _ k j⟩), HeapOk.same rfl rfl rfl rfl, trivial⟩
          repeat (first
            | refine thenA_n ?_
            | (refine AWp.region (id := 14) ?_; refine AList.add rfl rfl rfl rfl (by omega) (by omega) ?_; refine AList.move rfl rfl rfl ?_; refine AList.nil ?_))
          refine ⟨c + 1, by omega, Wk.mk [(2, some 2), (3, some 3), (5, some 5), (15, some 15), (6, some 6)] rfl rfl rfl ?_ ?_, by omega⟩
          · repeat (first | exact trivial | refine ⟨⟨_, rfl, by first | exact LeA.c (le_add (fun i => rfl) rfl rfl) | exact LeA.c (LeC.refl _ rfl) | exact LeA.c (LeC.ow _ _ rfl) | exact LeA.c (LeC.pt _ _ _ _ _ rfl) | exact LeA.c (LeC.nil _ rfl) | exact LeA.c (LeC.nils _ _) | (refine LeA.int ?_; omega) | (refine LeA.int ?_; dsimp only; omega) | exact LeA.c (LeC.fz rfl rfl (by first | rfl | omega) (fun i _ j _ => ⟨rfl, by first | rfl | exact rowN_imm (fun _ => rfl) _ i j | exact rowF_imm (fun _ => rfl) _ i j⟩))⟩, ?_⟩)
          · rw [hc0n, hc1n, ht0n, ht1n]
            refine ⟨HeapOk.same rfl rfl rfl rfl, HeapOk.same rfl rfl rfl rfl, HeapOk.box rfl rfl ⟨LeC.ow _ _ rfl, trivial⟩ rfl, HeapOk.row rfl rfl rfl (fun k _ j _ => ⟨rfl, cF_imm _ _ k j⟩), HeapOk.same rfl rfl rfl rfl, trivial⟩
        · obtain rfl : c = Wn := by omega
          repeat (first
            | refine AWp.seq ?_
            | refine thenA_n ?_
            | refine AWp.exit ?_
            | refine thenA_e ?_
            | refine inBlk_n ?_
            | refine inBlk_hit ?_
            | refine AWp.condF rfl (by first | rfl | assumption | exact cmF) ?_
            | (refine AWp.region (id := 8) ?_; refine AList.cmpF rfl rfl rfl rfl rfl cmF ?_; refine AList.nil ?_)
            | (refine AWp.region (id := 15) ?_; refine AList.add rfl rfl rfl rfl (by omega) (by omega) ?_; refine AList.move rfl rfl rfl ?_; refine AList.nil ?_))
          refine ⟨r + 1, hrl, Wk.mk [(2, some 2), (3, some 3), (5, some 5), (15, some 15), (6, some 6)] rfl rfl rfl ?_ ?_, by omega⟩
          · repeat (first | exact trivial | refine ⟨⟨_, rfl, by first | exact LeA.c (le_add (fun i => rfl) rfl rfl) | exact LeA.c (LeC.refl _ rfl) | exact LeA.c (LeC.ow _ _ rfl) | exact LeA.c (LeC.pt _ _ _ _ _ rfl) | exact LeA.c (LeC.nil _ rfl) | exact LeA.c (LeC.nils _ _) | (refine LeA.int ?_; omega) | (refine LeA.int ?_; dsimp only; omega) | exact LeA.c (LeC.fz rfl rfl (by first | rfl | omega) (fun i _ j _ => ⟨rfl, by first | rfl | exact rowN_imm (fun _ => rfl) _ i j | exact rowF_imm (fun _ => rfl) _ i j⟩))⟩, ?_⟩)
          · rw [hrow0, hrow1, hrt0, hrt1]
            refine ⟨HeapOk.same rfl rfl rfl rfl, HeapOk.same rfl rfl rfl rfl, HeapOk.box rfl rfl ⟨LeC.ow _ _ rfl, trivial⟩ rfl, HeapOk.row rfl rfl rfl (fun k _ j _ => ⟨rfl, cF_imm _ _ k j⟩), HeapOk.same rfl rfl rfl rfl, trivial⟩
    · obtain rfl : r = Hn := by omega
      repeat (first
        | refine AWp.seq ?_
        | refine thenA_n ?_
        | refine AWp.exit ?_
        | refine AWp.ret ?_
        | refine AWp.condF rfl (by first | rfl | assumption | exact cmF) ?_
        | (refine AWp.region (id := 5) ?_; refine AList.cmpF rfl rfl rfl rfl rfl cmF ?_; refine AList.nil ?_)
        | (refine AWp.region (id := 16) ?_; refine AList.makeFn rfl rfl rfl rfl rfl ?_; refine AList.assign rfl rfl rfl ?_; refine AList.nil ?_))
      have hn0 : 0 < n := by omega
      refine ⟨mkSt 93 [(4, .c (.fn 56 3 (itC a b x y n (colP A0 Wn 0 r 0) (colP A1 Wn d.1 r 0) (totP A0 Wn r 0) (totP A1 Wn r 0))))] [] [], [], ?_, rfl, rfl, ARets.one (x := .c _) (ARes.fn rfl fun i hi => ?_)⟩
      · refine Wk.trans (B := mkSt 93 [(4, .c (.fn 56 3 fun i => [CV.pt 2 14 0 0, CV.pt 5 1 0 0, CV.pt 6 2 0 0].getD i .any))] [(2, ⟨false, 1, 14, 85, lF (prC a b (lim4 x) (lim4 y))⟩), (5, ⟨false, 1, 1, 102, lF [.ls n 2 (cF (colP A0 Wn 0 r 0) (colP A1 Wn d.1 r 0))]⟩), (6, tB (totP A0 Wn r 0) (totP A1 Wn r 0))] [2, 5, 6]) (Wk.mk [(2, some 2), (5, some 5), (6, some 6)] rfl rfl rfl ⟨⟨_, rfl, .c (LeC.fn _ _ _ _ (fun i hi => ?_) (fun i hi => ?_))⟩, trivial⟩ ⟨HeapOk.same rfl rfl rfl rfl, HeapOk.box rfl rfl ⟨LeC.fz rfl rfl rfl (fun k _ j _ => ⟨rfl, cF_imm _ _ k j⟩), trivial⟩ rfl, HeapOk.same rfl rfl rfl rfl, trivial⟩) (Wk.mk [] rfl rfl rfl ⟨⟨_, rfl, .c (LeC.fn _ _ _ _ (fun i hi => ?_) (fun i hi => ?_))⟩, trivial⟩ trivial)
        · have hi3 : i < 3 := hi
          obtain rfl | rfl | rfl : i = 0 ∨ i = 1 ∨ i = 2 := by omega
          all_goals exact ⟨trivial, trivial⟩
        · have hi3 : i < 3 := hi
          obtain rfl | rfl | rfl : i = 0 ∨ i = 1 ∨ i = 2 := by omega
          · exact .pt 2 2 14 0 0 rfl
          · exact .pt 5 5 1 0 0 rfl
          · exact .pt 6 6 2 0 0 rfl
        · have hi3 : i < 3 := hi
          obtain rfl | rfl | rfl : i = 0 ∨ i = 1 ∨ i = 2 := by omega
          all_goals exact ⟨trivial, trivial⟩
        · have hi3 : i < 3 := hi
          obtain rfl | rfl | rfl : i = 0 ∨ i = 1 ∨ i = 2 := by omega
          · exact LeC.fzP rfl rfl rfl rfl
          · exact LeC.fzP rfl rfl rfl rfl
          · exact LeC.fzP rfl rfl rfl rfl
      · have hi3 : i < 3 := hi
        obtain rfl | rfl | rfl : i = 0 ∨ i = 1 ∨ i = 2 := by omega
        all_goals rfl
end Go.Proofs.YtfgcogkhnnflcaaDoor
end
