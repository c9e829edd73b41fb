/- ApartCommons: the statement. No condition. -/
import Derived.Test.YtijaioiojclooaaG32
import Derived.Test.YtijaioiojclooaaG08
import Derived.Test.YtijaioiojclooaaHA24cor01
import Derived.Test.YtijaioiojclooaaG30
import Derived.Test.YtijaioiojclooaaHA24cor06
import Derived.Test.YtijaioiojclooaaG07
import Derived.Laws.StructEq
import Derived.Test.YtijaioiojclooaaG29
import Derived.Test.YtijaioiojclooaaG18
import Derived.Test.YtijaioiojclooaaG26
import Derived.Test.YtijaioiojclooaaG27
import Derived.Test.YtijaioiojclooaaG28
import Derived.Test.YtijaioiojclooaaProg
import Derived.Test.YtijaioiojclooaaG16
import Derived.Test.YtijaioiojclooaaG25
import Derived.Test.YtijaioiojclooaaHA24cor05
import Derived.Test.YtijaioiojclooaaG11
import Derived.Test.YtijaioiojclooaaHA24cor04
import Derived.Test.YtijaioiojclooaaG06
import Derived.Test.YtijaioiojclooaaG17
import Derived.Test.YtijaioiojclooaaG10
import Derived.WalkKit
import Derived.Test.YtijaioiojclooaaG01
import Derived.Test.YtijaioiojclooaaG24
import Derived.Test.YtijaioiojclooaaHA24cor03
import Derived.Test.YtijaioiojclooaaG05
import Derived.Great.BuildSlice
import Derived.Lib.Hide
import Derived.Deep.QuietTactic
import Derived.BigQuiet
import Derived.Deep.DrawnRows
import Derived.Deep.AppendLies
import Derived.Maps.AppendAt
import Derived.OwnWalk
import Derived.Test.YtijaioiojclooaaG23
import Derived.Test.YtijaioiojclooaaG04
import Derived.StillTail
import Derived.Below
import Derived.Deep.Draws
import Derived.KernelRfl
import Derived.Scope
import Derived.Test.YtijaioiojclooaaG03
import Derived.RangeFuncLeaves
import Derived.RangeFuncRecord
import Derived.Test.YtijaioiojclooaaG21
import Derived.Test.YtijaioiojclooaaG22
import Derived.Test.YtijaioiojclooaaG09
import Derived.Test.YtijaioiojclooaaG02
import Derived.Shelf.Abstract
import Derived.OrdersIn
import Derived.TacticsIn
import Derived.RangeFuncCalls
import Derived.Test.YtijaioiojclooaaG20
import Derived.RangeFuncNested
import Derived.Test.YtijaioiojclooaaHA24cor02
import Derived.Laws.Cover3
import Derived.Test.YtijaioiojclooaaG19
import Derived.Test.YtijaioiojclooaaG15
import Derived.Test.YtijaioiojclooaaG14
import Derived.Test.YtijaioiojclooaaG13
import Derived.Test.YtijaioiojclooaaG12
import Derived.Test.YtijaioiojclooaaRows
import Derived.Test.YtijaioiojclooaaG31
import Derived.Test.YtijaioiojclooaaHA24cor07
import Derived.ProofKit
import Derived.OpenShut
import Derived.Deep.DeepHandedRow
import Derived.SizedLaws
import Derived.ChangeSlices
import Derived.Carry
import Derived.ChangeSame
set_option linter.unusedSimpArgs false
set_option linter.unusedVariables false
section
namespace Go.Proofs.Ytijaioiojclooaa
open Go.RowKit Go.Flow Go.AV Go.Plain
abbrev bpZ : Bp := ⟨0, 0, 0, fun _ => false⟩
abbrev maps4 (a b c d e f g h : Bp) : List CV := bpC a ++ bpC b ++ bpC c ++ bpC d ++ bpC e ++ bpC f ++ bpC g ++ bpC h
/-- A box that is kept, whatever its cells. -/
theorem cells_same {l : List CV} {n : Nat} (h : l.length = n) : cellsFrom (lF l 0) 0 n = l := by
  subst h
  have : ∀ (m : List CV) (i : Nat), l.drop i = m → i + m.length = l.length → cellsFrom (lF l 0) i m.length = m := fun m => by
    induction m with
    | nil => intro i _ _; rfl
    | cons x m ih =>
      intro i h1 h2
      have hx : l[i]? = some x := by
        have e := List.getElem?_drop (xs := l) (i := i) (j := 0)
        rw [h1] at e
        simpa using e.symm
      show lF l 0 i :: cellsFrom (lF l 0) (i + 1) m.length = x :: m
      rw [ih (i + 1) (by rw [← List.drop_drop, h1]; rfl) (by simp at h2; omega)]
      congr 1
      show l.getD i .any = x
      rw [List.getD_eq_getElem?_getD, hx]
      rfl
  exact this l 0 rfl (by simp)
theorem boxSame {S : St} {ren : List (Nat × Option Nat)} {id o sz : Nat} {ty : TypeId} {l : List CV} (hr : assoc ren id = some (some o)) (hh : S.h o = some ⟨false, 1, sz, ty, lF l⟩) (hi : l.all immC = true) (hl : l.length = sz) : HeapOk S ren id ⟨false, 1, sz, ty, lF l⟩ := HeapOk.same hr hh (cells_same hl) hi
end Go.Proofs.Ytijaioiojclooaa
end

section
namespace Go.Proofs.Ytijaioiojclooaa
open Go.RowKit Go.Flow Go.AV Go.Plain
theorem cmV_n (a b : Bp) (x y : Bg) (c : Cl) : (cmV a b x y c).1.n ≤ 100000 := by
  unfold cmV
  repeat' split
  all_goals first | exact Nat.zero_le _ | skip
  rename_i h1 _ _ _
  obtain ⟨q0, q1, q2, q3, q4⟩ := okB (Decidable.not_not.1 h1)
  show ((a.W + 4) * (a.H + 4)).toNat ≤ 100000
  have := Int.mul_le_mul (show a.W + 4 ≤ 100 by omega) (show a.H + 4 ≤ 100 by omega) (by omega) (by omega)
  omega
set_option maxHeartbeats 4000000 in
set_option maxRecDepth 100000 in
theorem ApartCommons_A (c : Ca) (raw : Bp) (one two : Cl) (hc : c.ok) : ECalls Try.prog 4 [.ag (caC c), .ag (bpC raw), .ag (clC one), .ag (clC two)] (fun v => v = .c (bC true)) := by
  have hM := made24_A c hc
  have hb := ma_cmp c
  have hab := ma_bd c
  have hcu := cut24_A raw
  obtain ⟨q0, q1, q2, q3, q4⟩ := okB hb.2.1
  obtain ⟨od, hO⟩ := Odd24_A (maB c) c.q (by omega) (by omega) (by have := Int.mul_le_mul q1 q3 q2 (by omega); omega) hc.2.2.2.2.2
  generalize maA c = a at *
  generalize maB c = b at *
  generalize maX c = x at *
  generalize maY c = y at *
  generalize cutB raw = cr at *
  have hD1 := rConfused_A a b x y
  have hD2 := rConfused_A a a x y
  generalize (cnfV a b x y).1 = c1 at *
  generalize (cnfV a a x y).1 = c2 at *
  refine ecalls_at Try.func4 rfl rfl Try.ntmps4 rfl ?_
  repeat (first
    | refine AWp.seq ?_
    | refine thenA_n ?_
    | refine AWp.block ?_
    | (refine AWp.region (id := 0) ?_; refine AList.box rfl rfl rfl rfl rfl ?_; refine AList.box rfl rfl rfl rfl rfl ?_; refine AList.box rfl rfl rfl rfl rfl ?_; refine AList.box rfl rfl rfl rfl rfl ?_; refine AList.assign rfl rfl rfl ?_; refine AList.nil ?_)
    | (refine AWp.region (id := 1) ?_; refine AList.call rfl rfl rfl rfl Try.func9 rfl (by kernel_rfl) (sanity24_A) ?_; refine AList.assign rfl rfl rfl ?_; refine AList.nil ?_)
    | (refine AWp.region (id := 2) ?_; refine AList.loadA tyOk rfl rfl rfl rfl rfl rfl rfl oM oM ?_; refine AList.call rfl rfl rfl rfl Try.func10 rfl (by kernel_rfl) (hM) ?_; refine AList.move rfl rfl rfl ?_; refine AList.extract rfl rfl rfl rfl ?_; refine AList.extract rfl rfl rfl rfl ?_; refine AList.extract rfl rfl rfl rfl ?_; refine AList.extract rfl rfl rfl rfl ?_; refine AList.alloc tyOk rfl rfl rfl rfl rfl ?_; refine AList.alloc tyOk rfl rfl rfl rfl rfl ?_; refine AList.alloc tyOk rfl rfl rfl rfl rfl ?_; refine AList.alloc tyOk rfl rfl rfl rfl rfl ?_; refine AList.store tyOk rfl rfl rfl rfl rfl rfl rfl rfl oM oM ?_; refine AList.store tyOk rfl rfl rfl rfl rfl rfl rfl rfl oM oM ?_; refine AList.store tyOk rfl rfl rfl rfl rfl rfl rfl rfl oM oM ?_; refine AList.store tyOk rfl rfl rfl rfl rfl rfl rfl rfl oM oM ?_; refine AList.nil ?_)
    | (refine AWp.region (id := 3) ?_; refine AList.loadA tyOk rfl rfl rfl rfl rfl rfl rfl oM oM ?_; refine AList.loadA tyOk rfl rfl rfl rfl rfl rfl rfl oM oM ?_; refine AList.loadA tyOk rfl rfl rfl rfl rfl rfl rfl oM oM ?_; refine AList.loadA tyOk rfl rfl rfl rfl rfl rfl rfl oM oM ?_; refine AList.call rfl rfl rfl rfl Try.func14 rfl (by kernel_rfl) (hD1) ?_; refine AList.move rfl rfl rfl ?_; refine AList.extract rfl rfl rfl rfl ?_; refine AList.extract rfl rfl rfl rfl ?_; refine AList.alloc tyOk rfl rfl rfl rfl rfl ?_; refine AList.store tyOk rfl rfl rfl rfl rfl rfl rfl rfl oM oM ?_; refine AList.assign rfl rfl rfl ?_; refine AList.nil ?_)
    | (refine AWp.region (id := 4) ?_; refine AList.loadA tyOk rfl rfl rfl rfl rfl rfl rfl oM oM ?_; refine AList.loadA tyOk rfl rfl rfl rfl rfl rfl rfl oM oM ?_; refine AList.loadA tyOk rfl rfl rfl rfl rfl rfl rfl oM oM ?_; refine AList.loadA tyOk rfl rfl rfl rfl rfl rfl rfl oM oM ?_; refine AList.call rfl rfl rfl rfl Try.func14 rfl (by kernel_rfl) (hD2) ?_; refine AList.move rfl rfl rfl ?_; refine AList.extract rfl rfl rfl rfl ?_; refine AList.extract rfl rfl rfl rfl ?_; refine AList.alloc tyOk rfl rfl rfl rfl rfl ?_; refine AList.store tyOk rfl rfl rfl rfl rfl rfl rfl rfl oM oM ?_; refine AList.assign rfl rfl rfl ?_; refine AList.nil ?_)
    | (refine AWp.draw (id := 5) mixed ?_; refine AList.loadA tyOk rfl rfl rfl rfl rfl rfl rfl oM oM ?_; refine AList.loadA tyOk rfl rfl rfl rfl rfl rfl rfl oM oM ?_; refine AList.buildArr tyOk rfl rfl rfl rfl rfl rfl rfl rfl ?_; refine AList.loadA tyOk rfl rfl rfl rfl rfl rfl rfl oM oM ?_; refine AList.loadA tyOk rfl rfl rfl rfl rfl rfl rfl oM oM ?_; refine AList.buildArr tyOk rfl rfl rfl rfl rfl rfl rfl rfl ?_; refine AList.loadA tyOk rfl rfl rfl rfl rfl rfl rfl oM oM ?_; refine AList.loadA tyOk rfl rfl rfl rfl rfl rfl rfl oM oM ?_; refine AList.fieldPt tyOk rfl rfl rfl rfl rfl rfl rfl ?_; refine AList.load1 tyOk rfl rfl rfl rfl rfl rfl rfl oM oM ?_; refine AList.call rfl rfl rfl rfl Try.func11 rfl (by kernel_rfl) (hO) ?_; refine AList.buildArr tyOk rfl rfl rfl rfl rfl rfl rfl rfl ?_; refine AList.loadA tyOk rfl rfl rfl rfl rfl rfl rfl oM oM ?_; refine AList.call rfl rfl rfl rfl Try.func12 rfl (by kernel_rfl) (hcu) ?_; refine AList.loadA tyOk rfl rfl rfl rfl rfl rfl rfl oM oM ?_; refine AList.buildArr tyOk rfl rfl rfl rfl rfl rfl rfl rfl ?_; refine AList.buildArr tyOk rfl rfl rfl rfl rfl rfl rfl rfl ?_; refine AList.alloc tyOk rfl rfl rfl rfl rfl ?_; refine AList.store tyOk rfl rfl rfl rfl rfl rfl rfl rfl oM oM ?_; refine AList.nil ⟨by kernel_rfl, ?_⟩)
    | (refine AWp.region (id := 6) ?_; refine AList.assign rfl rfl rfl ?_; refine AList.nil ?_))
  obtain ⟨P, hP⟩ : ∃ P : Nat → Bp, P = fun k => [a, a, a, cr].getD k bpZ := ⟨_, rfl⟩
  obtain ⟨R, hR⟩ : ∃ R : Nat → Bp, R = fun k => [b, a, od, b].getD k bpZ := ⟨_, rfl⟩
  obtain ⟨c3, hc3⟩ : ∃ c3 : Cl, c3 = ⟨c1.dx, c1.dy, one.col⟩ := ⟨_, rfl⟩
  obtain ⟨D, hD⟩ : ∃ D : Nat → Cl, D = fun k => [c1, c2, one, two, c3].getD k clZ := ⟨_, rfl⟩
  obtain ⟨mp, hmp⟩ : ∃ l, maps4 a b a a a od cr b = l := ⟨_, rfl⟩
  have hmi : mp.all immC = true := by rw [← hmp]; rfl
  have hml : mp.length = 24 := by rw [← hmp]; rfl
  refine AWp.round (fun k : Nat => (mkSt 127 [(6, .c (.pt 6 3 0 0)), (7, .c (.pt 7 3 0 0)), (9, .c (bC true)), (12, .c (.pt 12 4 0 0)), (13, .c (.pt 13 4 0 0)), (14, .c (.pt 14 3 0 0)), (16, .c (.pt 16 3 0 0)), (18, .c (.pt 18 24 0 0)), (19, .c (iC k))] [(6, ⟨false, 1, 3, 40, lF (clC one)⟩), (7, ⟨false, 1, 3, 40, lF (clC two)⟩), (12, ⟨false, 1, 4, 29, lF (bgC x)⟩), (13, ⟨false, 1, 4, 29, lF (bgC y)⟩), (14, ⟨false, 1, 3, 40, lF (clC c1)⟩), (16, ⟨false, 1, 3, 40, lF (clC c2)⟩), (18, ⟨false, 1, 24, 36, lF mp⟩)] [6, 7, 12, 13, 14, 16, 18])) (fun k => k ≤ 4) (fun k => 4 - k) 0 (Nat.zero_le _) ?_ (fun k hk => ?_)
  · rw [← hmp]
    refine Wk.mk [(6, some 6), (7, some 7), (12, some 12), (13, some 13), (14, some 14), (16, some 16), (18, some 18)] rfl rfl rfl ?_ ?_
    · repeat (first | exact trivial | refine ⟨⟨_, rfl, by first | exact LeA.c (LeC.refl _ rfl) | exact LeA.c (LeC.ow _ _ rfl) | exact LeA.c (LeC.pt _ _ _ _ _ rfl) | exact LeA.c (LeC.nil _ rfl) | exact LeA.c (LeC.nils _ _) | (refine LeA.int ?_; omega) | (refine LeA.int ?_; dsimp only; omega) | exact LeA.c (LeC.fz rfl rfl (by first | rfl | omega) (fun i _ j _ => ⟨rfl, by first | rfl | exact rowN_imm (fun _ => rfl) _ i j | exact rowF_imm (fun _ => rfl) _ i j⟩))⟩, ?_⟩)
    · repeat (first | exact trivial | refine ⟨by first | exact HeapOk.same rfl rfl rfl rfl | exact HeapOk.lent rfl rfl rfl rfl | exact HeapOk.nil rfl rfl | exact HeapOk.row rfl rfl (by first | rfl | omega) (fun i _ j _ => ⟨rfl, by first | rfl | exact rowN_imm (fun _ => rfl) _ i j | exact rowF_imm (fun _ => rfl) _ i j⟩) | exact HeapOk.box rfl rfl (by repeat (first | exact trivial | refine ⟨by first | exact LeC.refl _ rfl | exact LeC.ow _ _ rfl | exact LeC.nil _ rfl | exact LeC.nils _ _ | exact LeC.fz rfl rfl (by first | rfl | omega) (fun i _ j _ => ⟨rfl, by first | rfl | exact rowN_imm (fun _ => rfl) _ i j | exact rowF_imm (fun _ => rfl) _ i j⟩) | exact LeC.int (by omega), ?_⟩)) rfl, ?_⟩)
  · by_cases hk4 : k < 4
    · repeat (first
        | refine AWp.seq ?_
        | refine thenA_n ?_
        | refine AWp.block ?_
        | refine AWp.skip ?_
        | refine AWp.condT rfl (by first | rfl | assumption | exact cmT) ?_
        | (refine AWp.region (id := 7) ?_; refine AList.move rfl rfl rfl ?_; refine AList.cmpT rfl rfl rfl rfl rfl cmT ?_; refine AList.nil ?_)
        | (refine AWp.region (id := 9) ?_; refine AList.loadA tyOk rfl rfl rfl rfl rfl rfl rfl oM oM ?_; refine AList.loadA tyOk rfl rfl rfl rfl rfl rfl rfl oM oM ?_; refine AList.loadA tyOk rfl rfl rfl rfl rfl rfl rfl oM oM ?_; refine AList.loadA tyOk rfl rfl rfl rfl rfl rfl rfl oM oM ?_; refine AList.fieldPt tyOk rfl rfl rfl rfl rfl rfl rfl ?_; refine AList.load1 tyOk rfl rfl rfl rfl rfl rfl rfl oM oM ?_; refine AList.fieldPt tyOk rfl rfl rfl rfl rfl rfl rfl ?_; refine AList.load1 tyOk rfl rfl rfl rfl rfl rfl rfl oM oM ?_; refine AList.fieldPt tyOk rfl rfl rfl rfl rfl rfl rfl ?_; refine AList.load1 tyOk rfl rfl rfl rfl rfl rfl rfl oM oM ?_; refine AList.buildSt tyOk rfl rfl rfl rfl rfl rfl rfl rfl ?_; refine AList.buildArr tyOk rfl rfl rfl rfl rfl rfl rfl rfl ?_; refine AList.move rfl rfl rfl ?_; refine AList.nil ?_))
      refine AWp.round (fun i : Nat => (mkSt 127 [(6, .c (.pt 6 3 0 0)), (7, .c (.pt 7 3 0 0)), (9, .c (bC true)), (12, .c (.pt 12 4 0 0)), (13, .c (.pt 13 4 0 0)), (14, .c (.pt 14 3 0 0)), (16, .c (.pt 16 3 0 0)), (18, .c (.pt 18 24 0 0)), (19, .c (iC k)), (82, .ag (clC c1 ++ clC c2 ++ clC one ++ clC two ++ clC c3)), (83, .c (iC i))] [(6, ⟨false, 1, 3, 40, lF (clC one)⟩), (7, ⟨false, 1, 3, 40, lF (clC two)⟩), (12, ⟨false, 1, 4, 29, lF (bgC x)⟩), (13, ⟨false, 1, 4, 29, lF (bgC y)⟩), (14, ⟨false, 1, 3, 40, lF (clC c1)⟩), (16, ⟨false, 1, 3, 40, lF (clC c2)⟩), (18, ⟨false, 1, 24, 36, lF mp⟩)] [6, 7, 12, 13, 14, 16, 18])) (fun i => i ≤ 5) (fun i => 5 - i) 0 (Nat.zero_le _) ?_ (fun i hi => ?_)
      · rw [hc3]
        refine Wk.mk [(6, some 6), (7, some 7), (12, some 12), (13, some 13), (14, some 14), (16, some 16), (18, some 18)] rfl rfl rfl ?_ ?_
        · repeat (first | exact trivial | refine ⟨⟨_, rfl, by first | exact LeA.ag (leL_imm rfl) | exact LeA.c (LeC.refl _ rfl) | exact LeA.c (LeC.ow _ _ rfl) | exact LeA.c (LeC.pt _ _ _ _ _ rfl) | exact LeA.c (LeC.nil _ rfl) | exact LeA.c (LeC.nils _ _) | (refine LeA.int ?_; omega) | (refine LeA.int ?_; dsimp only; omega) | exact LeA.c (LeC.fz rfl rfl (by first | rfl | omega) (fun i _ j _ => ⟨rfl, by first | rfl | exact rowN_imm (fun _ => rfl) _ i j | exact rowF_imm (fun _ => rfl) _ i j⟩))⟩, ?_⟩)
        · exact ⟨HeapOk.same rfl rfl rfl rfl, HeapOk.same rfl rfl rfl rfl, HeapOk.same rfl rfl rfl rfl, HeapOk.same rfl rfl rfl rfl, HeapOk.same rfl rfl rfl rfl, HeapOk.same rfl rfl rfl rfl, boxSame rfl rfl hmi hml, trivial⟩
      · by_cases hi5 : i < 5
        · repeat (first
            | refine AWp.seq ?_
            | refine AWp.block ?_
            | refine AWp.skip ?_
            | refine AWp.condT rfl (by first | rfl | assumption | exact cmT) ?_
            | (refine AWp.region (id := 10) ?_; refine AList.cmpT rfl rfl rfl rfl rfl cmT ?_; refine AList.nil ?_))
          refine AWp.cut (mkSt 127 [(6, .c (.pt 6 3 0 0)), (7, .c (.pt 7 3 0 0)), (9, .c (bC true)), (12, .c (.pt 12 4 0 0)), (13, .c (.pt 13 4 0 0)), (14, .c (.pt 14 3 0 0)), (16, .c (.pt 16 3 0 0)), (18, .c (.pt 18 24 0 0)), (19, .c (iC k)), (82, .ag (clC c1 ++ clC c2 ++ clC one ++ clC two ++ clC c3)), (83, .c (iC i)), (21, .c (.pt 21 3 0 0))] [(6, ⟨false, 1, 3, 40, lF (clC one)⟩), (7, ⟨false, 1, 3, 40, lF (clC two)⟩), (12, ⟨false, 1, 4, 29, lF (bgC x)⟩), (13, ⟨false, 1, 4, 29, lF (bgC y)⟩), (14, ⟨false, 1, 3, 40, lF (clC c1)⟩), (16, ⟨false, 1, 3, 40, lF (clC c2)⟩), (18, ⟨false, 1, 24, 36, lF mp⟩), (21, ⟨false, 1, 3, 40, lF (clC (D i))⟩)] [6, 7, 12, 13, 14, 16, 18, 21]) ?_ (fun S2 hw2 => AWp.weak hw2 ?_)
          · subst hD hmp
            clear hc3
            obtain rfl | rfl | rfl | rfl | rfl : i = 0 ∨ i = 1 ∨ i = 2 ∨ i = 3 ∨ i = 4 := by omega
            · repeat (first
                | (refine AWp.region (id := 11) ?_; refine AList.index (i := 0) tyOk (rfl) rfl rfl rfl rfl rfl rfl rfl rfl (by first | rfl | omega) oM ?_; refine AList.alloc tyOk rfl rfl rfl rfl rfl ?_; refine AList.store tyOk rfl rfl rfl rfl rfl rfl rfl rfl oM oM ?_; refine AList.nil ?_))
              refine ⟨rfl, Wk.mk [(6, some 6), (7, some 7), (12, some 12), (13, some 13), (14, some 14), (16, some 16), (18, some 18), (21, some 21)] rfl rfl rfl ?_ ?_⟩
              · repeat (first | exact trivial | refine ⟨⟨_, rfl, by first | exact LeA.ag (leL_imm rfl) | exact LeA.c (LeC.refl _ rfl) | exact LeA.c (LeC.ow _ _ rfl) | exact LeA.c (LeC.pt _ _ _ _ _ rfl) | exact LeA.c (LeC.nil _ rfl) | exact LeA.c (LeC.nils _ _) | (refine LeA.int ?_; omega) | (refine LeA.int ?_; dsimp only; omega) | exact LeA.c (LeC.fz rfl rfl (by first | rfl | omega) (fun i _ j _ => ⟨rfl, by first | rfl | exact rowN_imm (fun _ => rfl) _ i j | exact rowF_imm (fun _ => rfl) _ i j⟩))⟩, ?_⟩)
              · repeat (first | exact trivial | refine ⟨by first | exact HeapOk.same rfl rfl rfl rfl | exact HeapOk.lent rfl rfl rfl rfl | exact HeapOk.nil rfl rfl | exact HeapOk.row rfl rfl (by first | rfl | omega) (fun i _ j _ => ⟨rfl, by first | rfl | exact rowN_imm (fun _ => rfl) _ i j | exact rowF_imm (fun _ => rfl) _ i j⟩) | exact HeapOk.box rfl rfl (by repeat (first | exact trivial | refine ⟨by first | exact LeC.refl _ rfl | exact LeC.ow _ _ rfl | exact LeC.nil _ rfl | exact LeC.nils _ _ | exact LeC.fz rfl rfl (by first | rfl | omega) (fun i _ j _ => ⟨rfl, by first | rfl | exact rowN_imm (fun _ => rfl) _ i j | exact rowF_imm (fun _ => rfl) _ i j⟩) | exact LeC.int (by omega), ?_⟩)) rfl, ?_⟩)
            · repeat (first
                | (refine AWp.region (id := 11) ?_; refine AList.index (i := 1) tyOk (rfl) rfl rfl rfl rfl rfl rfl rfl rfl (by first | rfl | omega) oM ?_; refine AList.alloc tyOk rfl rfl rfl rfl rfl ?_; refine AList.store tyOk rfl rfl rfl rfl rfl rfl rfl rfl oM oM ?_; refine AList.nil ?_))
              refine ⟨rfl, Wk.mk [(6, some 6), (7, some 7), (12, some 12), (13, some 13), (14, some 14), (16, some 16), (18, some 18), (21, some 21)] rfl rfl rfl ?_ ?_⟩
              · repeat (first | exact trivial | refine ⟨⟨_, rfl, by first | exact LeA.ag (leL_imm rfl) | exact LeA.c (LeC.refl _ rfl) | exact LeA.c (LeC.ow _ _ rfl) | exact LeA.c (LeC.pt _ _ _ _ _ rfl) | exact LeA.c (LeC.nil _ rfl) | exact LeA.c (LeC.nils _ _) | (refine LeA.int ?_; omega) | (refine LeA.int ?_; dsimp only; omega) | exact LeA.c (LeC.fz rfl rfl (by first | rfl | omega) (fun i _ j _ => ⟨rfl, by first | rfl | exact rowN_imm (fun _ => rfl) _ i j | exact rowF_imm (fun _ => rfl) _ i j⟩))⟩, ?_⟩)
              · repeat (first | exact trivial | refine ⟨by first | exact HeapOk.same rfl rfl rfl rfl | exact HeapOk.lent rfl rfl rfl rfl | exact HeapOk.nil rfl rfl | exact HeapOk.row rfl rfl (by first | rfl | omega) (fun i _ j _ => ⟨rfl, by first | rfl | exact rowN_imm (fun _ => rfl) _ i j | exact rowF_imm (fun _ => rfl) _ i j⟩) | exact HeapOk.box rfl rfl (by repeat (first | exact trivial | refine ⟨by first | exact LeC.refl _ rfl | exact LeC.ow _ _ rfl | exact LeC.nil _ rfl | exact LeC.nils _ _ | exact LeC.fz rfl rfl (by first | rfl | omega) (fun i _ j _ => ⟨rfl, by first | rfl | exact rowN_imm (fun _ => rfl) _ i j | exact rowF_imm (fun _ => rfl) _ i j⟩) | exact LeC.int (by omega), ?_⟩)) rfl, ?_⟩)
            · repeat (first
                | (refine AWp.region (id := 11) ?_; refine AList.index (i := 2) tyOk (rfl) rfl rfl rfl rfl rfl rfl rfl rfl (by first | rfl | omega) oM ?_; refine AList.alloc tyOk rfl rfl rfl rfl rfl ?_; refine AList.store tyOk rfl rfl rfl rfl rfl rfl rfl rfl oM oM ?_; refine AList.nil ?_))
              refine ⟨rfl, Wk.mk [(6, some 6), (7, some 7), (12, some 12), (13, some 13), (14, some 14), (16, some 16), (18, some 18), (21, some 21)] rfl rfl rfl ?_ ?_⟩
              · repeat (first | exact trivial | refine ⟨⟨_, rfl, by first | exact LeA.ag (leL_imm rfl) | exact LeA.c (LeC.refl _ rfl) | exact LeA.c (LeC.ow _ _ rfl) | exact LeA.c (LeC.pt _ _ _ _ _ rfl) | exact LeA.c (LeC.nil _ rfl) | exact LeA.c (LeC.nils _ _) | (refine LeA.int ?_; omega) | (refine LeA.int ?_; dsimp only; omega) | exact LeA.c (LeC.fz rfl rfl (by first | rfl | omega) (fun i _ j _ => ⟨rfl, by first | rfl | exact rowN_imm (fun _ => rfl) _ i j | exact rowF_imm (fun _ => rfl) _ i j⟩))⟩, ?_⟩)
              · repeat (first | exact trivial | refine ⟨by first | exact HeapOk.same rfl rfl rfl rfl | exact HeapOk.lent rfl rfl rfl rfl | exact HeapOk.nil rfl rfl | exact HeapOk.row rfl rfl (by first | rfl | omega) (fun i _ j _ => ⟨rfl, by first | rfl | exact rowN_imm (fun _ => rfl) _ i j | exact rowF_imm (fun _ => rfl) _ i j⟩) | exact HeapOk.box rfl rfl (by repeat (first | exact trivial | refine ⟨by first | exact LeC.refl _ rfl | exact LeC.ow _ _ rfl | exact LeC.nil _ rfl | exact LeC.nils _ _ | exact LeC.fz rfl rfl (by first | rfl | omega) (fun i _ j _ => ⟨rfl, by first | rfl | exact rowN_imm (fun _ => rfl) _ i j | exact rowF_imm (fun _ => rfl) _ i j⟩) | exact LeC.int (by omega), ?_⟩)) rfl, ?_⟩)
            · repeat (first
                | (refine AWp.region (id := 11) ?_; refine AList.index (i := 3) tyOk (rfl) rfl rfl rfl rfl rfl rfl rfl rfl (by first | rfl | omega) oM ?_; refine AList.alloc tyOk rfl rfl rfl rfl rfl ?_; refine AList.store tyOk rfl rfl rfl rfl rfl rfl rfl rfl oM oM ?_; refine AList.nil ?_))
              refine ⟨rfl, Wk.mk [(6, some 6), (7, some 7), (12, some 12), (13, some 13), (14, some 14), (16, some 16), (18, some 18), (21, some 21)] rfl rfl rfl ?_ ?_⟩
              · repeat (first | exact trivial | refine ⟨⟨_, rfl, by first | exact LeA.ag (leL_imm rfl) | exact LeA.c (LeC.refl _ rfl) | exact LeA.c (LeC.ow _ _ rfl) | exact LeA.c (LeC.pt _ _ _ _ _ rfl) | exact LeA.c (LeC.nil _ rfl) | exact LeA.c (LeC.nils _ _) | (refine LeA.int ?_; omega) | (refine LeA.int ?_; dsimp only; omega) | exact LeA.c (LeC.fz rfl rfl (by first | rfl | omega) (fun i _ j _ => ⟨rfl, by first | rfl | exact rowN_imm (fun _ => rfl) _ i j | exact rowF_imm (fun _ => rfl) _ i j⟩))⟩, ?_⟩)
              · repeat (first | exact trivial | refine ⟨by first | exact HeapOk.same rfl rfl rfl rfl | exact HeapOk.lent rfl rfl rfl rfl | exact HeapOk.nil rfl rfl | exact HeapOk.row rfl rfl (by first | rfl | omega) (fun i _ j _ => ⟨rfl, by first | rfl | exact rowN_imm (fun _ => rfl) _ i j | exact rowF_imm (fun _ => rfl) _ i j⟩) | exact HeapOk.box rfl rfl (by repeat (first | exact trivial | refine ⟨by first | exact LeC.refl _ rfl | exact LeC.ow _ _ rfl | exact LeC.nil _ rfl | exact LeC.nils _ _ | exact LeC.fz rfl rfl (by first | rfl | omega) (fun i _ j _ => ⟨rfl, by first | rfl | exact rowN_imm (fun _ => rfl) _ i j | exact rowF_imm (fun _ => rfl) _ i j⟩) | exact LeC.int (by omega), ?_⟩)) rfl, ?_⟩)
            · repeat (first
                | (refine AWp.region (id := 11) ?_; refine AList.index (i := 4) tyOk (rfl) rfl rfl rfl rfl rfl rfl rfl rfl (by first | rfl | omega) oM ?_; refine AList.alloc tyOk rfl rfl rfl rfl rfl ?_; refine AList.store tyOk rfl rfl rfl rfl rfl rfl rfl rfl oM oM ?_; refine AList.nil ?_))
              refine ⟨rfl, Wk.mk [(6, some 6), (7, some 7), (12, some 12), (13, some 13), (14, some 14), (16, some 16), (18, some 18), (21, some 21)] rfl rfl rfl ?_ ?_⟩
              · repeat (first | exact trivial | refine ⟨⟨_, rfl, by first | exact LeA.ag (leL_imm rfl) | exact LeA.c (LeC.refl _ rfl) | exact LeA.c (LeC.ow _ _ rfl) | exact LeA.c (LeC.pt _ _ _ _ _ rfl) | exact LeA.c (LeC.nil _ rfl) | exact LeA.c (LeC.nils _ _) | (refine LeA.int ?_; omega) | (refine LeA.int ?_; dsimp only; omega) | exact LeA.c (LeC.fz rfl rfl (by first | rfl | omega) (fun i _ j _ => ⟨rfl, by first | rfl | exact rowN_imm (fun _ => rfl) _ i j | exact rowF_imm (fun _ => rfl) _ i j⟩))⟩, ?_⟩)
              · repeat (first | exact trivial | refine ⟨by first | exact HeapOk.same rfl rfl rfl rfl | exact HeapOk.lent rfl rfl rfl rfl | exact HeapOk.nil rfl rfl | exact HeapOk.row rfl rfl (by first | rfl | omega) (fun i _ j _ => ⟨rfl, by first | rfl | exact rowN_imm (fun _ => rfl) _ i j | exact rowF_imm (fun _ => rfl) _ i j⟩) | exact HeapOk.box rfl rfl (by repeat (first | exact trivial | refine ⟨by first | exact LeC.refl _ rfl | exact LeC.ow _ _ rfl | exact LeC.nil _ rfl | exact LeC.nils _ _ | exact LeC.fz rfl rfl (by first | rfl | omega) (fun i _ j _ => ⟨rfl, by first | rfl | exact rowN_imm (fun _ => rfl) _ i j | exact rowF_imm (fun _ => rfl) _ i j⟩) | exact LeC.int (by omega), ?_⟩)) rfl, ?_⟩)
          obtain ⟨e, he⟩ : ∃ e, (cmV (P k) (R k) x y (D i)).2 = e := ⟨_, rfl⟩
          obtain ⟨im, him⟩ : ∃ im, (cmV (P k) (R k) x y (D i)).1 = im := ⟨_, rfl⟩
          have hn := cmV_n (P k) (R k) x y (D i)
          rw [him] at hn
          refine AWp.seq ?_
          refine AWp.cut (mkSt 127 [(6, .c (.pt 6 3 0 0)), (7, .c (.pt 7 3 0 0)), (9, .c (bC true)), (12, .c (.pt 12 4 0 0)), (13, .c (.pt 13 4 0 0)), (14, .c (.pt 14 3 0 0)), (16, .c (.pt 16 3 0 0)), (18, .c (.pt 18 24 0 0)), (19, .c (iC k)), (82, .ag (clC c1 ++ clC c2 ++ clC one ++ clC two ++ clC c3)), (83, .c (iC i)), (21, .c (.pt 21 3 0 0)), (22, .c (.pt 22 3 0 0)), (23, .c (iC e))] [(6, ⟨false, 1, 3, 40, lF (clC one)⟩), (7, ⟨false, 1, 3, 40, lF (clC two)⟩), (12, ⟨false, 1, 4, 29, lF (bgC x)⟩), (13, ⟨false, 1, 4, 29, lF (bgC y)⟩), (14, ⟨false, 1, 3, 40, lF (clC c1)⟩), (16, ⟨false, 1, 3, 40, lF (clC c2)⟩), (18, ⟨false, 1, 24, 36, lF mp⟩), (21, ⟨false, 1, 3, 40, lF (clC (D i))⟩), (22, ⟨false, 1, 3, 52, lF (ipC im)⟩)] [6, 7, 12, 13, 14, 16, 18, 21, 22]) ?_ (fun S3 hw3 => AWp.weak hw3 ?_)
          · have hC := Common_A (P k) (R k) x y (D i)
            rw [he, him] at hC
            clear he him
            generalize D i = d at *
            subst hP hR hmp
            obtain rfl | rfl | rfl | rfl : k = 0 ∨ k = 1 ∨ k = 2 ∨ k = 3 := by omega
            · repeat (first
                | (refine AWp.draw (id := 12) mixed ?_; refine AList.move rfl rfl rfl ?_; refine AList.idxArr (i := 0) tyOk rfl rfl rfl rfl rfl rfl rfl (by first | rfl | omega) oM ?_; refine AList.idxArr tyOk rfl rfl rfl rfl rfl rfl rfl rfl oM ?_; refine AList.loadA tyOk rfl rfl rfl rfl rfl rfl rfl oM oM ?_; refine AList.move rfl rfl rfl ?_; refine AList.idxArr (i := 0) tyOk rfl rfl rfl rfl rfl rfl rfl (by first | rfl | omega) oM ?_; refine AList.idxArr tyOk rfl rfl rfl rfl rfl rfl rfl rfl oM ?_; refine AList.loadA tyOk rfl rfl rfl rfl rfl rfl rfl oM oM ?_; refine AList.loadA tyOk rfl rfl rfl rfl rfl rfl rfl oM oM ?_; refine AList.loadA tyOk rfl rfl rfl rfl rfl rfl rfl oM oM ?_; refine AList.loadA tyOk rfl rfl rfl rfl rfl rfl rfl oM oM ?_; refine AList.call rfl rfl rfl rfl Try.func19 rfl (by kernel_rfl) (hC) ?_; refine AList.move rfl rfl rfl ?_; refine AList.extract rfl rfl rfl rfl ?_; refine AList.extract rfl rfl rfl rfl ?_; refine AList.alloc tyOk rfl rfl rfl rfl rfl ?_; refine AList.store tyOk rfl rfl rfl rfl rfl rfl rfl rfl oM oM ?_; refine AList.assign rfl rfl rfl ?_; refine AList.nil ⟨by kernel_rfl, ?_⟩))
              refine ⟨rfl, Wk.mk [(6, some 6), (7, some 7), (12, some 12), (13, some 13), (14, some 14), (16, some 16), (18, some 18), (21, some 21), (22, some 22)] rfl rfl rfl ?_ ?_⟩
              · repeat (first | exact trivial | refine ⟨⟨_, rfl, by first | exact LeA.ag (leL_imm rfl) | exact LeA.c (LeC.refl _ rfl) | exact LeA.c (LeC.ow _ _ rfl) | exact LeA.c (LeC.pt _ _ _ _ _ rfl) | exact LeA.c (LeC.nil _ rfl) | exact LeA.c (LeC.nils _ _) | (refine LeA.int ?_; omega) | (refine LeA.int ?_; dsimp only; omega) | exact LeA.c (LeC.fz rfl rfl (by first | rfl | omega) (fun i _ j _ => ⟨rfl, by first | rfl | exact rowN_imm (fun _ => rfl) _ i j | exact rowF_imm (fun _ => rfl) _ i j⟩))⟩, ?_⟩)
              · repeat (first | exact trivial | refine ⟨by first | exact HeapOk.same rfl rfl rfl rfl | exact HeapOk.lent rfl rfl rfl rfl | exact HeapOk.nil rfl rfl | exact HeapOk.row rfl rfl (by first | rfl | omega) (fun i _ j _ => ⟨rfl, by first | rfl | exact rowN_imm (fun _ => rfl) _ i j | exact rowF_imm (fun _ => rfl) _ i j⟩) | exact HeapOk.box rfl rfl (by repeat (first | exact trivial | refine ⟨by first | exact LeC.refl _ rfl | exact LeC.ow _ _ rfl | exact LeC.nil _ rfl | exact LeC.nils _ _ | exact LeC.fz rfl rfl (by first | rfl | omega) (fun i _ j _ => ⟨rfl, by first | rfl | exact rowN_imm (fun _ => rfl) _ i j | exact rowF_imm (fun _ => rfl) _ i j⟩) | exact LeC.int (by omega), ?_⟩)) rfl, ?_⟩)
            · repeat (first
                | (refine AWp.draw (id := 12) mixed ?_; refine AList.move rfl rfl rfl ?_; refine AList.idxArr (i := 1) tyOk rfl rfl rfl rfl rfl rfl rfl (by first | rfl | omega) oM ?_; refine AList.idxArr tyOk rfl rfl rfl rfl rfl rfl rfl rfl oM ?_; refine AList.loadA tyOk rfl rfl rfl rfl rfl rfl rfl oM oM ?_; refine AList.move rfl rfl rfl ?_; refine AList.idxArr (i := 1) tyOk rfl rfl rfl rfl rfl rfl rfl (by first | rfl | omega) oM ?_; refine AList.idxArr tyOk rfl rfl rfl rfl rfl rfl rfl rfl oM ?_; refine AList.loadA tyOk rfl rfl rfl rfl rfl rfl rfl oM oM ?_; refine AList.loadA tyOk rfl rfl rfl rfl rfl rfl rfl oM oM ?_; refine AList.loadA tyOk rfl rfl rfl rfl rfl rfl rfl oM oM ?_; refine AList.loadA tyOk rfl rfl rfl rfl rfl rfl rfl oM oM ?_; refine AList.call rfl rfl rfl rfl Try.func19 rfl (by kernel_rfl) (hC) ?_; refine AList.move rfl rfl rfl ?_; refine AList.extract rfl rfl rfl rfl ?_; refine AList.extract rfl rfl rfl rfl ?_; refine AList.alloc tyOk rfl rfl rfl rfl rfl ?_; refine AList.store tyOk rfl rfl rfl rfl rfl rfl rfl rfl oM oM ?_; refine AList.assign rfl rfl rfl ?_; refine AList.nil ⟨by kernel_rfl, ?_⟩))
              refine ⟨rfl, Wk.mk [(6, some 6), (7, some 7), (12, some 12), (13, some 13), (14, some 14), (16, some 16), (18, some 18), (21, some 21), (22, some 22)] rfl rfl rfl ?_ ?_⟩
              · repeat (first | exact trivial | refine ⟨⟨_, rfl, by first | exact LeA.ag (leL_imm rfl) | exact LeA.c (LeC.refl _ rfl) | exact LeA.c (LeC.ow _ _ rfl) | exact LeA.c (LeC.pt _ _ _ _ _ rfl) | exact LeA.c (LeC.nil _ rfl) | exact LeA.c (LeC.nils _ _) | (refine LeA.int ?_; omega) | (refine LeA.int ?_; dsimp only; omega) | exact LeA.c (LeC.fz rfl rfl (by first | rfl | omega) (fun i _ j _ => ⟨rfl, by first | rfl | exact rowN_imm (fun _ => rfl) _ i j | exact rowF_imm (fun _ => rfl) _ i j⟩))⟩, ?_⟩)
              · repeat (first | exact trivial | refine ⟨by first | exact HeapOk.same rfl rfl rfl rfl | exact HeapOk.lent rfl rfl rfl rfl | exact HeapOk.nil rfl rfl | exact HeapOk.row rfl rfl (by first | rfl | omega) (fun i _ j _ => ⟨rfl, by first | rfl | exact rowN_imm (fun _ => rfl) _ i j | exact rowF_imm (fun _ => rfl) _ i j⟩) | exact HeapOk.box rfl rfl (by repeat (first | exact trivial | refine ⟨by first | exact LeC.refl _ rfl | exact LeC.ow _ _ rfl | exact LeC.nil _ rfl | exact LeC.nils _ _ | exact LeC.fz rfl rfl (by first | rfl | omega) (fun i _ j _ => ⟨rfl, by first | rfl | exact rowN_imm (fun _ => rfl) _ i j | exact rowF_imm (fun _ => rfl) _ i j⟩) | exact LeC.int (by omega), ?_⟩)) rfl, ?_⟩)
            · repeat (first
                | (refine AWp.draw (id := 12) mixed ?_; refine AList.move rfl rfl rfl ?_; refine AList.idxArr (i := 2) tyOk rfl rfl rfl rfl rfl rfl rfl (by first | rfl | omega) oM ?_; refine AList.idxArr tyOk rfl rfl rfl rfl rfl rfl rfl rfl oM ?_; refine AList.loadA tyOk rfl rfl rfl rfl rfl rfl rfl oM oM ?_; refine AList.move rfl rfl rfl ?_; refine AList.idxArr (i := 2) tyOk rfl rfl rfl rfl rfl rfl rfl (by first | rfl | omega) oM ?_; refine AList.idxArr tyOk rfl rfl rfl rfl rfl rfl rfl rfl oM ?_; refine AList.loadA tyOk rfl rfl rfl rfl rfl rfl rfl oM oM ?_; refine AList.loadA tyOk rfl rfl rfl rfl rfl rfl rfl oM oM ?_; refine AList.loadA tyOk rfl rfl rfl rfl rfl rfl rfl oM oM ?_; refine AList.loadA tyOk rfl rfl rfl rfl rfl rfl rfl oM oM ?_; refine AList.call rfl rfl rfl rfl Try.func19 rfl (by kernel_rfl) (hC) ?_; refine AList.move rfl rfl rfl ?_; refine AList.extract rfl rfl rfl rfl ?_; refine AList.extract rfl rfl rfl rfl ?_; refine AList.alloc tyOk rfl rfl rfl rfl rfl ?_; refine AList.store tyOk rfl rfl rfl rfl rfl rfl rfl rfl oM oM ?_; refine AList.assign rfl rfl rfl ?_; refine AList.nil ⟨by kernel_rfl, ?_⟩))
              refine ⟨rfl, Wk.mk [(6, some 6), (7, some 7), (12, some 12), (13, some 13), (14, some 14), (16, some 16), (18, some 18), (21, some 21), (22, some 22)] rfl rfl rfl ?_ ?_⟩
              · repeat (first | exact trivial | refine ⟨⟨_, rfl, by first | exact LeA.ag (leL_imm rfl) | exact LeA.c (LeC.refl _ rfl) | exact LeA.c (LeC.ow _ _ rfl) | exact LeA.c (LeC.pt _ _ _ _ _ rfl) | exact LeA.c (LeC.nil _ rfl) | exact LeA.c (LeC.nils _ _) | (refine LeA.int ?_; omega) | (refine LeA.int ?_; dsimp only; omega) | exact LeA.c (LeC.fz rfl rfl (by first | rfl | omega) (fun i _ j _ => ⟨rfl, by first | rfl | exact rowN_imm (fun _ => rfl) _ i j | exact rowF_imm (fun _ => rfl) _ i j⟩))⟩, ?_⟩)
              · repeat (first | exact trivial | refine ⟨by first | exact HeapOk.same rfl rfl rfl rfl | exact HeapOk.lent rfl rfl rfl rfl | exact HeapOk.nil rfl rfl | exact HeapOk.row rfl rfl (by first | rfl | omega) (fun i _ j _ => ⟨rfl, by first | rfl | exact rowN_imm (fun _ => rfl) _ i j | exact rowF_imm (fun _ => rfl) _ i j⟩) | exact HeapOk.box rfl rfl (by repeat (first | exact trivial | refine ⟨by first | exact LeC.refl _ rfl | exact LeC.ow _ _ rfl | exact LeC.nil _ rfl | exact LeC.nils _ _ | exact LeC.fz rfl rfl (by first | rfl | omega) (fun i _ j _ => ⟨rfl, by first | rfl | exact rowN_imm (fun _ => rfl) _ i j | exact rowF_imm (fun _ => rfl) _ i j⟩) | exact LeC.int (by omega), ?_⟩)) rfl, ?_⟩)
            · repeat (first
                | (refine AWp.draw (id := 12) mixed ?_; refine AList.move rfl rfl rfl ?_; refine AList.idxArr (i := 3) tyOk rfl rfl rfl rfl rfl rfl rfl (by first | rfl | omega) oM ?_; refine AList.idxArr tyOk rfl rfl rfl rfl rfl rfl rfl rfl oM ?_; refine AList.loadA tyOk rfl rfl rfl rfl rfl rfl rfl oM oM ?_; refine AList.move rfl rfl rfl ?_; refine AList.idxArr (i := 3) tyOk rfl rfl rfl rfl rfl rfl rfl (by first | rfl | omega) oM ?_; refine AList.idxArr tyOk rfl rfl rfl rfl rfl rfl rfl rfl oM ?_; refine AList.loadA tyOk rfl rfl rfl rfl rfl rfl rfl oM oM ?_; refine AList.loadA tyOk rfl rfl rfl rfl rfl rfl rfl oM oM ?_; refine AList.loadA tyOk rfl rfl rfl rfl rfl rfl rfl oM oM ?_; refine AList.loadA tyOk rfl rfl rfl rfl rfl rfl rfl oM oM ?_; refine AList.call rfl rfl rfl rfl Try.func19 rfl (by kernel_rfl) (hC) ?_; refine AList.move rfl rfl rfl ?_; refine AList.extract rfl rfl rfl rfl ?_; refine AList.extract rfl rfl rfl rfl ?_; refine AList.alloc tyOk rfl rfl rfl rfl rfl ?_; refine AList.store tyOk rfl rfl rfl rfl rfl rfl rfl rfl oM oM ?_; refine AList.assign rfl rfl rfl ?_; refine AList.nil ⟨by kernel_rfl, ?_⟩))
              refine ⟨rfl, Wk.mk [(6, some 6), (7, some 7), (12, some 12), (13, some 13), (14, some 14), (16, some 16), (18, some 18), (21, some 21), (22, some 22)] rfl rfl rfl ?_ ?_⟩
              · repeat (first | exact trivial | refine ⟨⟨_, rfl, by first | exact LeA.ag (leL_imm rfl) | exact LeA.c (LeC.refl _ rfl) | exact LeA.c (LeC.ow _ _ rfl) | exact LeA.c (LeC.pt _ _ _ _ _ rfl) | exact LeA.c (LeC.nil _ rfl) | exact LeA.c (LeC.nils _ _) | (refine LeA.int ?_; omega) | (refine LeA.int ?_; dsimp only; omega) | exact LeA.c (LeC.fz rfl rfl (by first | rfl | omega) (fun i _ j _ => ⟨rfl, by first | rfl | exact rowN_imm (fun _ => rfl) _ i j | exact rowF_imm (fun _ => rfl) _ i j⟩))⟩, ?_⟩)
              · repeat (first | exact trivial | refine ⟨by first | exact HeapOk.same rfl rfl rfl rfl | exact HeapOk.lent rfl rfl rfl rfl | exact HeapOk.nil rfl rfl | exact HeapOk.row rfl rfl (by first | rfl | omega) (fun i _ j _ => ⟨rfl, by first | rfl | exact rowN_imm (fun _ => rfl) _ i j | exact rowF_imm (fun _ => rfl) _ i j⟩) | exact HeapOk.box rfl rfl (by repeat (first | exact trivial | refine ⟨by first | exact LeC.refl _ rfl | exact LeC.ow _ _ rfl | exact LeC.nil _ rfl | exact LeC.nils _ _ | exact LeC.fz rfl rfl (by first | rfl | omega) (fun i _ j _ => ⟨rfl, by first | rfl | exact rowN_imm (fun _ => rfl) _ i j | exact rowF_imm (fun _ => rfl) _ i j⟩) | exact LeC.int (by omega), ?_⟩)) rfl, ?_⟩)
          refine AWp.seq ?_
          refine AWp.cut (mkSt 127 [(6, .c (.pt 6 3 0 0)), (7, .c (.pt 7 3 0 0)), (9, .c (bC true)), (12, .c (.pt 12 4 0 0)), (13, .c (.pt 13 4 0 0)), (14, .c (.pt 14 3 0 0)), (16, .c (.pt 16 3 0 0)), (18, .c (.pt 18 24 0 0)), (19, .c (iC k)), (82, .ag (clC c1 ++ clC c2 ++ clC one ++ clC two ++ clC c3)), (83, .c (iC i)), (21, .c (.pt 21 3 0 0)), (22, .c (.pt 22 3 0 0)), (23, .c (iC e)), (24, .c (.pt 24 3 0 0)), (25, .c (iC e))] [(6, ⟨false, 1, 3, 40, lF (clC one)⟩), (7, ⟨false, 1, 3, 40, lF (clC two)⟩), (12, ⟨false, 1, 4, 29, lF (bgC x)⟩), (13, ⟨false, 1, 4, 29, lF (bgC y)⟩), (14, ⟨false, 1, 3, 40, lF (clC c1)⟩), (16, ⟨false, 1, 3, 40, lF (clC c2)⟩), (18, ⟨false, 1, 24, 36, lF mp⟩), (21, ⟨false, 1, 3, 40, lF (clC (D i))⟩), (22, ⟨false, 1, 3, 52, lF (ipC im)⟩), (24, ⟨false, 1, 3, 52, lF (ipC im)⟩)] [6, 7, 12, 13, 14, 16, 18, 21, 22, 24]) ?_ (fun S4 hw4 => AWp.weak hw4 ?_)
          · have hC := rCommon_A (P k) (R k) x y (D i)
            rw [he, him] at hC
            clear he him
            generalize D i = d at *
            subst hP hR hmp
            obtain rfl | rfl | rfl | rfl : k = 0 ∨ k = 1 ∨ k = 2 ∨ k = 3 := by omega
            · repeat (first
                | (refine AWp.draw (id := 13) mixed ?_; refine AList.move rfl rfl rfl ?_; refine AList.idxArr (i := 0) tyOk rfl rfl rfl rfl rfl rfl rfl (by first | rfl | omega) oM ?_; refine AList.idxArr tyOk rfl rfl rfl rfl rfl rfl rfl rfl oM ?_; refine AList.loadA tyOk rfl rfl rfl rfl rfl rfl rfl oM oM ?_; refine AList.move rfl rfl rfl ?_; refine AList.idxArr (i := 0) tyOk rfl rfl rfl rfl rfl rfl rfl (by first | rfl | omega) oM ?_; refine AList.idxArr tyOk rfl rfl rfl rfl rfl rfl rfl rfl oM ?_; refine AList.loadA tyOk rfl rfl rfl rfl rfl rfl rfl oM oM ?_; refine AList.loadA tyOk rfl rfl rfl rfl rfl rfl rfl oM oM ?_; refine AList.loadA tyOk rfl rfl rfl rfl rfl rfl rfl oM oM ?_; refine AList.loadA tyOk rfl rfl rfl rfl rfl rfl rfl oM oM ?_; refine AList.call rfl rfl rfl rfl Try.func20 rfl (by kernel_rfl) (hC) ?_; refine AList.move rfl rfl rfl ?_; refine AList.extract rfl rfl rfl rfl ?_; refine AList.extract rfl rfl rfl rfl ?_; refine AList.alloc tyOk rfl rfl rfl rfl rfl ?_; refine AList.store tyOk rfl rfl rfl rfl rfl rfl rfl rfl oM oM ?_; refine AList.assign rfl rfl rfl ?_; refine AList.nil ⟨by kernel_rfl, ?_⟩))
              refine ⟨rfl, Wk.mk [(6, some 6), (7, some 7), (12, some 12), (13, some 13), (14, some 14), (16, some 16), (18, some 18), (21, some 21), (22, some 22), (24, some 24)] rfl rfl rfl ?_ ?_⟩
              · repeat (first | exact trivial | refine ⟨⟨_, rfl, by first | exact LeA.ag (leL_imm rfl) | exact LeA.c (LeC.refl _ rfl) | exact LeA.c (LeC.ow _ _ rfl) | exact LeA.c (LeC.pt _ _ _ _ _ rfl) | exact LeA.c (LeC.nil _ rfl) | exact LeA.c (LeC.nils _ _) | (refine LeA.int ?_; omega) | (refine LeA.int ?_; dsimp only; omega) | exact LeA.c (LeC.fz rfl rfl (by first | rfl | omega) (fun i _ j _ => ⟨rfl, by first | rfl | exact rowN_imm (fun _ => rfl) _ i j | exact rowF_imm (fun _ => rfl) _ i j⟩))⟩, ?_⟩)
              · repeat (first | exact trivial | refine ⟨by first | exact HeapOk.same rfl rfl rfl rfl | exact HeapOk.lent rfl rfl rfl rfl | exact HeapOk.nil rfl rfl | exact HeapOk.row rfl rfl (by first | rfl | omega) (fun i _ j _ => ⟨rfl, by first | rfl | exact rowN_imm (fun _ => rfl) _ i j | exact rowF_imm (fun _ => rfl) _ i j⟩) | exact HeapOk.box rfl rfl (by repeat (first | exact trivial | refine ⟨by first | exact LeC.refl _ rfl | exact LeC.ow _ _ rfl | exact LeC.nil _ rfl | exact LeC.nils _ _ | exact LeC.fz rfl rfl (by first | rfl | omega) (fun i _ j _ => ⟨rfl, by first | rfl | exact rowN_imm (fun _ => rfl) _ i j | exact rowF_imm (fun _ => rfl) _ i j⟩) | exact LeC.int (by omega), ?_⟩)) rfl, ?_⟩)
            · repeat (first
                | (refine AWp.draw (id := 13) mixed ?_; refine AList.move rfl rfl rfl ?_; refine AList.idxArr (i := 1) tyOk rfl rfl rfl rfl rfl rfl rfl (by first | rfl | omega) oM ?_; refine AList.idxArr tyOk rfl rfl rfl rfl rfl rfl rfl rfl oM ?_; refine AList.loadA tyOk rfl rfl rfl rfl rfl rfl rfl oM oM ?_; refine AList.move rfl rfl rfl ?_; refine AList.idxArr (i := 1) tyOk rfl rfl rfl rfl rfl rfl rfl (by first | rfl | omega) oM ?_; refine AList.idxArr tyOk rfl rfl rfl rfl rfl rfl rfl rfl oM ?_; refine AList.loadA tyOk rfl rfl rfl rfl rfl rfl rfl oM oM ?_; refine AList.loadA tyOk rfl rfl rfl rfl rfl rfl rfl oM oM ?_; refine AList.loadA tyOk rfl rfl rfl rfl rfl rfl rfl oM oM ?_; refine AList.loadA tyOk rfl rfl rfl rfl rfl rfl rfl oM oM ?_; refine AList.call rfl rfl rfl rfl Try.func20 rfl (by kernel_rfl) (hC) ?_; refine AList.move rfl rfl rfl ?_; refine AList.extract rfl rfl rfl rfl ?_; refine AList.extract rfl rfl rfl rfl ?_; refine AList.alloc tyOk rfl rfl rfl rfl rfl ?_; refine AList.store tyOk rfl rfl rfl rfl rfl rfl rfl rfl oM oM ?_; refine AList.assign rfl rfl rfl ?_; refine AList.nil ⟨by kernel_rfl, ?_⟩))
              refine ⟨rfl, Wk.mk [(6, some 6), (7, some 7), (12, some 12), (13, some 13), (14, some 14), (16, some 16), (18, some 18), (21, some 21), (22, some 22), (24, some 24)] rfl rfl rfl ?_ ?_⟩
              · repeat (first | exact trivial | refine ⟨⟨_, rfl, by first | exact LeA.ag (leL_imm rfl) | exact LeA.c (LeC.refl _ rfl) | exact LeA.c (LeC.ow _ _ rfl) | exact LeA.c (LeC.pt _ _ _ _ _ rfl) | exact LeA.c (LeC.nil _ rfl) | exact LeA.c (LeC.nils _ _) | (refine LeA.int ?_; omega) | (refine LeA.int ?_; dsimp only; omega) | exact LeA.c (LeC.fz rfl rfl (by first | rfl | omega) (fun i _ j _ => ⟨rfl, by first | rfl | exact rowN_imm (fun _ => rfl) _ i j | exact rowF_imm (fun _ => rfl) _ i j⟩))⟩, ?_⟩)
              · repeat (first | exact trivial | refine ⟨by first | exact HeapOk.same rfl rfl rfl rfl | exact HeapOk.lent rfl rfl rfl rfl | exact HeapOk.nil rfl rfl | exact HeapOk.row rfl rfl (by first | rfl | omega) (fun i _ j _ => ⟨rfl, by first | rfl | exact rowN_imm (fun _ => rfl) _ i j | exact rowF_imm (fun _ => rfl) _ i j⟩) | exact HeapOk.box rfl rfl (by repeat (first | exact trivial | refine ⟨by first | exact LeC.refl _ rfl | exact LeC.ow _ _ rfl | exact LeC.nil _ rfl | exact LeC.nils _ _ | exact LeC.fz rfl rfl (by first | rfl | omega) (fun i _ j _ => ⟨rfl, by first | rfl | exact rowN_imm (fun _ => rfl) _ i j | exact rowF_imm (fun _ => rfl) _ i j⟩) | exact LeC.int (by omega), ?_⟩)) rfl, ?_⟩)
            · repeat (first
                | (refine AWp.draw (id := 13) mixed ?_; refine AList.move rfl rfl rfl ?_; refine AList.idxArr (i := 2) tyOk rfl rfl rfl rfl rfl rfl rfl (by first | rfl | omega) oM ?_; refine AList.idxArr tyOk rfl rfl rfl rfl rfl rfl rfl rfl oM ?_; refine AList.loadA tyOk rfl rfl rfl rfl rfl rfl rfl oM oM ?_; refine AList.move rfl rfl rfl ?_; refine AList.idxArr (i := 2) tyOk rfl rfl rfl rfl rfl rfl rfl (by first | rfl | omega) oM ?_; refine AList.idxArr tyOk rfl rfl rfl rfl rfl rfl rfl rfl oM ?_; refine AList.loadA tyOk rfl rfl rfl rfl rfl rfl rfl oM oM ?_; refine AList.loadA tyOk rfl rfl rfl rfl rfl rfl rfl oM oM ?_; refine AList.loadA tyOk rfl rfl rfl rfl rfl rfl rfl oM oM ?_; refine AList.loadA tyOk rfl rfl rfl rfl rfl rfl rfl oM oM ?_; refine AList.call rfl rfl rfl rfl Try.func20 rfl (by kernel_rfl) (hC) ?_; refine AList.move rfl rfl rfl ?_; refine AList.extract rfl rfl rfl rfl ?_; refine AList.extract rfl rfl rfl rfl ?_; refine AList.alloc tyOk rfl rfl rfl rfl rfl ?_; refine AList.store tyOk rfl rfl rfl rfl rfl rfl rfl rfl oM oM ?_; refine AList.assign rfl rfl rfl ?_; refine AList.nil ⟨by kernel_rfl, ?_⟩))
              refine ⟨rfl, Wk.mk [(6, some 6), (7, some 7), (12, some 12), (13, some 13), (14, some 14), (16, some 16), (18, some 18), (21, some 21), (22, some 22), (24, some 24)] rfl rfl rfl ?_ ?_⟩
              · repeat (first | exact trivial | refine ⟨⟨_, rfl, by first | exact LeA.ag (leL_imm rfl) | exact LeA.c (LeC.refl _ rfl) | exact LeA.c (LeC.ow _ _ rfl) | exact LeA.c (LeC.pt _ _ _ _ _ rfl) | exact LeA.c (LeC.nil _ rfl) | exact LeA.c (LeC.nils _ _) | (refine LeA.int ?_; omega) | (refine LeA.int ?_; dsimp only; omega) | exact LeA.c (LeC.fz rfl rfl (by first | rfl | omega) (fun i _ j _ => ⟨rfl, by first | rfl | exact rowN_imm (fun _ => rfl) _ i j | exact rowF_imm (fun _ => rfl) _ i j⟩))⟩, ?_⟩)
              · repeat (first | exact trivial | refine ⟨by first | exact HeapOk.same rfl rfl rfl rfl | exact HeapOk.lent rfl rfl rfl rfl | exact HeapOk.nil rfl rfl | exact HeapOk.row rfl rfl (by first | rfl | omega) (fun i _ j _ => ⟨rfl, by first | rfl | exact rowN_imm (fun _ => rfl) _ i j | exact rowF_imm (fun _ => rfl) _ i j⟩) | exact HeapOk.box rfl rfl (by repeat (first | exact trivial | refine ⟨by first | exact LeC.refl _ rfl | exact LeC.ow _ _ rfl | exact LeC.nil _ rfl | exact LeC.nils _ _ | exact LeC.fz rfl rfl (by first | rfl | omega) (fun i _ j _ => ⟨rfl, by first | rfl | exact rowN_imm (fun _ => rfl) _ i j | exact rowF_imm (fun _ => rfl) _ i j⟩) | exact LeC.int (by omega), ?_⟩)) rfl, ?_⟩)
            · repeat (first
                | (refine AWp.draw (id := 13) mixed ?_; refine AList.move rfl rfl rfl ?_; refine AList.idxArr (i := 3) tyOk rfl rfl rfl rfl rfl rfl rfl (by first | rfl | omega) oM ?_; refine AList.idxArr tyOk rfl rfl rfl rfl rfl rfl rfl rfl oM ?_; refine AList.loadA tyOk rfl rfl rfl rfl rfl rfl rfl oM oM ?_; refine AList.move rfl rfl rfl ?_; refine AList.idxArr (i := 3) tyOk rfl rfl rfl rfl rfl rfl rfl (by first | rfl | omega) oM ?_; refine AList.idxArr tyOk rfl rfl rfl rfl rfl rfl rfl rfl oM ?_; refine AList.loadA tyOk rfl rfl rfl rfl rfl rfl rfl oM oM ?_; refine AList.loadA tyOk rfl rfl rfl rfl rfl rfl rfl oM oM ?_; refine AList.loadA tyOk rfl rfl rfl rfl rfl rfl rfl oM oM ?_; refine AList.loadA tyOk rfl rfl rfl rfl rfl rfl rfl oM oM ?_; refine AList.call rfl rfl rfl rfl Try.func20 rfl (by kernel_rfl) (hC) ?_; refine AList.move rfl rfl rfl ?_; refine AList.extract rfl rfl rfl rfl ?_; refine AList.extract rfl rfl rfl rfl ?_; refine AList.alloc tyOk rfl rfl rfl rfl rfl ?_; refine AList.store tyOk rfl rfl rfl rfl rfl rfl rfl rfl oM oM ?_; refine AList.assign rfl rfl rfl ?_; refine AList.nil ⟨by kernel_rfl, ?_⟩))
              refine ⟨rfl, Wk.mk [(6, some 6), (7, some 7), (12, some 12), (13, some 13), (14, some 14), (16, some 16), (18, some 18), (21, some 21), (22, some 22), (24, some 24)] rfl rfl rfl ?_ ?_⟩
              · repeat (first | exact trivial | refine ⟨⟨_, rfl, by first | exact LeA.ag (leL_imm rfl) | exact LeA.c (LeC.refl _ rfl) | exact LeA.c (LeC.ow _ _ rfl) | exact LeA.c (LeC.pt _ _ _ _ _ rfl) | exact LeA.c (LeC.nil _ rfl) | exact LeA.c (LeC.nils _ _) | (refine LeA.int ?_; omega) | (refine LeA.int ?_; dsimp only; omega) | exact LeA.c (LeC.fz rfl rfl (by first | rfl | omega) (fun i _ j _ => ⟨rfl, by first | rfl | exact rowN_imm (fun _ => rfl) _ i j | exact rowF_imm (fun _ => rfl) _ i j⟩))⟩, ?_⟩)
              · repeat (first | exact trivial | refine ⟨by first | exact HeapOk.same rfl rfl rfl rfl | exact HeapOk.lent rfl rfl rfl rfl | exact HeapOk.nil rfl rfl | exact HeapOk.row rfl rfl (by first | rfl | omega) (fun i _ j _ => ⟨rfl, by first | rfl | exact rowN_imm (fun _ => rfl) _ i j | exact rowF_imm (fun _ => rfl) _ i j⟩) | exact HeapOk.box rfl rfl (by repeat (first | exact trivial | refine ⟨by first | exact LeC.refl _ rfl | exact LeC.ow _ _ rfl | exact LeC.nil _ rfl | exact LeC.nils _ _ | exact LeC.fz rfl rfl (by first | rfl | omega) (fun i _ j _ => ⟨rfl, by first | rfl | exact rowN_imm (fun _ => rfl) _ i j | exact rowF_imm (fun _ => rfl) _ i j⟩) | exact LeC.int (by omega), ?_⟩)) rfl, ?_⟩)
          have hsm := same24_A im hn
          repeat (first
            | refine AWp.seq ?_
            | refine thenA_n ?_
            | refine AWp.skip ?_
            | refine inBlk_n ?_
            | refine AWp.condF rfl (by first | rfl | assumption | exact cmF) ?_
            | (refine AWp.region (id := 14) ?_; refine AList.move rfl rfl rfl ?_; refine AList.move rfl rfl rfl ?_; refine AList.cmpF rfl rfl rfl rfl rfl (by simp only [cmpP, eq_self, decide_true, Bool.not_true]) ?_; refine AList.move rfl rfl rfl ?_; refine AList.loadA tyOk rfl rfl rfl rfl rfl rfl rfl oM oM ?_; refine AList.loadA tyOk rfl rfl rfl rfl rfl rfl rfl oM oM ?_; refine AList.call rfl rfl rfl rfl Try.func21 rfl (by kernel_rfl) (hsm) ?_; refine AList.notB rfl rfl rfl ?_; refine AList.pickF rfl rfl rfl rfl ?_; refine AList.nil ?_)
            | (refine AWp.region (id := 16) ?_; refine AList.add rfl rfl rfl rfl (by omega) (by omega) ?_; refine AList.move rfl rfl rfl ?_; refine AList.nil ?_))
          refine ⟨i + 1, hi5, Wk.mk [(6, some 6), (7, some 7), (12, some 12), (13, some 13), (14, some 14), (16, some 16), (18, some 18)] rfl rfl rfl ?_ ?_, by omega⟩
          · repeat (first | exact trivial | refine ⟨⟨_, rfl, by first | exact LeA.ag (leL_imm rfl) | exact LeA.c (LeC.refl _ rfl) | exact LeA.c (LeC.ow _ _ rfl) | exact LeA.c (LeC.pt _ _ _ _ _ rfl) | exact LeA.c (LeC.nil _ rfl) | exact LeA.c (LeC.nils _ _) | (refine LeA.int ?_; omega) | (refine LeA.int ?_; dsimp only; omega) | exact LeA.c (LeC.fz rfl rfl (by first | rfl | omega) (fun i _ j _ => ⟨rfl, by first | rfl | exact rowN_imm (fun _ => rfl) _ i j | exact rowF_imm (fun _ => rfl) _ i j⟩))⟩, ?_⟩)
          · exact ⟨HeapOk.same rfl rfl rfl rfl, HeapOk.same rfl rfl rfl rfl, HeapOk.same rfl rfl rfl rfl, HeapOk.same rfl rfl rfl rfl, HeapOk.same rfl rfl rfl rfl, HeapOk.same rfl rfl rfl rfl, boxSame rfl rfl hmi hml, trivial⟩
        · repeat (first
            | refine AWp.seq ?_
            | refine thenA_n ?_
            | refine AWp.exit ?_
            | refine thenA_e ?_
            | refine inBlk_n ?_
            | refine inBlk_hit ?_
            | refine AWp.condF rfl (by first | rfl | assumption | exact cmF) ?_
            | (refine AWp.region (id := 8) ?_; refine AList.move rfl rfl rfl ?_; refine AList.add rfl rfl rfl rfl (by omega) (by omega) ?_; refine AList.assign rfl rfl rfl ?_; refine AList.nil ?_)
            | (refine AWp.region (id := 10) ?_; refine AList.cmpF rfl rfl rfl rfl rfl cmF ?_; refine AList.nil ?_))
          refine ⟨k + 1, hk4, Wk.mk [(6, some 6), (7, some 7), (12, some 12), (13, some 13), (14, some 14), (16, some 16), (18, some 18)] rfl rfl rfl ?_ ?_, by omega⟩
          · repeat (first | exact trivial | refine ⟨⟨_, rfl, by first | exact LeA.c (LeC.refl _ rfl) | exact LeA.c (LeC.ow _ _ rfl) | exact LeA.c (LeC.pt _ _ _ _ _ rfl) | exact LeA.c (LeC.nil _ rfl) | exact LeA.c (LeC.nils _ _) | (refine LeA.int ?_; omega) | (refine LeA.int ?_; dsimp only; omega) | exact LeA.c (LeC.fz rfl rfl (by first | rfl | omega) (fun i _ j _ => ⟨rfl, by first | rfl | exact rowN_imm (fun _ => rfl) _ i j | exact rowF_imm (fun _ => rfl) _ i j⟩))⟩, ?_⟩)
          · exact ⟨HeapOk.same rfl rfl rfl rfl, HeapOk.same rfl rfl rfl rfl, HeapOk.same rfl rfl rfl rfl, HeapOk.same rfl rfl rfl rfl, HeapOk.same rfl rfl rfl rfl, HeapOk.same rfl rfl rfl rfl, boxSame rfl rfl hmi hml, trivial⟩
    · repeat (first
        | refine AWp.seq ?_
        | refine thenA_n ?_
        | refine AWp.exit ?_
        | refine AWp.ret ?_
        | refine AWp.condF rfl (by first | rfl | assumption | exact cmF) ?_
        | (refine AWp.region (id := 7) ?_; refine AList.move rfl rfl rfl ?_; refine AList.cmpF rfl rfl rfl rfl rfl cmF ?_; refine AList.nil ?_)
        | (refine AWp.region (id := 17) ?_; refine AList.move rfl rfl rfl ?_; refine AList.assign rfl rfl rfl ?_; refine AList.nil ?_))
      refine ⟨_, rfl, ?_⟩
      refine ⟨mkSt 127 [(8, .c (bC true))] [] [], [], Wk.mk [] rfl rfl rfl ?_ trivial, rfl, rfl, ARets.one (x := .c _) (ARes.tmp rfl rfl)⟩
      repeat (first | exact trivial | refine ⟨⟨_, rfl, by first | exact LeA.c (LeC.refl _ rfl) | exact LeA.c (LeC.ow _ _ rfl) | exact LeA.c (LeC.pt _ _ _ _ _ rfl) | exact LeA.c (LeC.nil _ rfl) | exact LeA.c (LeC.nils _ _) | (refine LeA.int ?_; omega) | (refine LeA.int ?_; dsimp only; omega) | exact LeA.c (LeC.fz rfl rfl (by first | rfl | omega) (fun i _ j _ => ⟨rfl, by first | rfl | exact rowN_imm (fun _ => rfl) _ i j | exact rowF_imm (fun _ => rfl) _ i j⟩))⟩, ?_⟩)
end Go.Proofs.Ytijaioiojclooaa
end

section
namespace Go.Proofs.Ytijaioiojclooaa.apartCommons
open Go.ChangeShapes Go.WideShapes Go.ChangeAt Go.RowKit Go.Flow Go.AV
set_option maxRecDepth 100000 in
theorem contract (H : Type) (enc : TypeId × Value → H) (W : World) (base : Nat) (args : Array Value) (ds gs : List (DataW H)) (before : List MemPlace)
    (hval : ∀ (j : Nat) t v, Try.f4.params[j]? = some t → args[j]? = some v → Value.okWide Try.prog W .any base t v)
    (hW : DataW.Whole enc Try.prog Try.f4.params.toList Rows.apartCommonsSpec.vars false W args.toList ds gs before)
    (hsz : (DataW.weightsEach Try.prog (Try.f4.params.toList ++ (OpenSpec.ofChange Rows.apartCommonsSpec).bare.plain.varTypes Try.prog) (ds ++ gs)).all (· ≤ reachBytes) = true) :
    Calls Try.prog 4 args W fun e W' => ∃ v, e = .returned v ∧ Rows.apartCommonsSpec.post enc Try.prog Try.f4 false true false false W args v W' := by
  have hW' := hW
  obtain ⟨p, q, hA0, hV, rfl, hfz, hnd⟩ := hW
  have hA : DataW.TrodAll enc Try.prog W 0 (fun _ => true) true Try.f4.params.toList args.toList ds p := hA0
  have hAk := hA0
  rw [Try.params4] at hA hval hsz
  obtain ⟨rfl, rfl⟩ := trodVars_none hV
  obtain ⟨v0, vs0, d0, ds0, p0, q0, hargs, rfl, rfl, h0, t0⟩ := trodAll_cons hA
  obtain ⟨v1, vs1, d1, ds1, p1, q1, rfl, rfl, rfl, h1, t1⟩ := trodAll_cons t0
  obtain ⟨v2, vs2, d2, ds2, p2, q2, rfl, rfl, rfl, h2, t2⟩ := trodAll_cons t1
  obtain ⟨v3, vs3, d3, ds3, p3, q3, rfl, rfl, rfl, h3, t3⟩ := trodAll_cons t2
  obtain ⟨rfl, rfl, rfl⟩ := trodAll_nil t3
  obtain rfl : args = #[v0, v1, v2, v3] := by rw [← Array.toList_inj]; exact hargs
  have hlt := fun x hx => hW'.lt x hx
  simp only [List.append_nil] at hW'
  rw [List.append_nil] at hsz
  obtain ⟨a0, ok0, r0⟩ := opn_ca.argS Try.underlying24 (hval 0 24 v0 rfl rfl) h0 (weigh hsz 0 (t := 24) (d := d0) rfl rfl)
  obtain ⟨a1, ok1, r1⟩ := opn_bp.argS Try.underlying27 (hval 1 27 v1 rfl rfl) h1 (weigh hsz 1 (t := 27) (d := d1) rfl rfl)
  obtain ⟨a2, ok2, r2⟩ := opn_cl.argS Try.underlying40 (hval 2 40 v2 rfl rfl) h2 (weigh hsz 2 (t := 40) (d := d2) rfl rfl)
  obtain ⟨a3, ok3, r3⟩ := opn_cl.argS Try.underlying40 (hval 3 40 v3 rfl rfl) h3 (weigh hsz 3 (t := 40) (d := d3) rfl rfl)
  refine ((ApartCommons_A a0 a1 a2 a3 ok0) O0 W [_, _, _, _] (fun b h => h.elim) ⟨r0, r1, r2, r3, trivial⟩).mono fun e W' ⟨v, r, he, hr, hv, hE⟩ => ?_
  subst hr
  obtain rfl : v = .bool true := hv.2
  subst he
  exact ⟨_, rfl, post_below (pv := []) hW' (fun _ _ _ => trodAll_cons_mk (shut_bool Try.underlying4 _) trodAll_mk0)
    (fun sp hsp => trodAll_below laidOut hE (by rw [Try.params4]; intro t ht; simp only [List.mem_cons, List.not_mem_nil, or_false] at ht; rcases ht with rfl | rfl | rfl | rfl <;> exact ⟨by kernel_rfl, of_decide_eq_true (by kernel_rfl)⟩) hAk (fun x hx => hlt x (by rw [List.append_nil]; exact hx)) sp (fun x hx => hsp x (by simpa only [List.append_nil] using hx)))
    (fun _ _ => rfl) (by simp) hE (ok_one (by kernel_rfl) rfl (okWide_bool_mk Try.underlying4 _))⟩
theorem own : ownKnob Try.prog.godebug = none := by kernel_rfl
set_option maxRecDepth 100000 in
theorem lifted (os : Os) (started : os.Started) (H : Type) (enc : TypeId × Value → H) :
    ReturnsInHanded {} Try.checked os 4 .any (Rows.apartCommonsSpec.pre6 enc Try.prog Try.f4 Rows.apartCommonsRow.domain false) (Rows.apartCommonsSpec.post enc Try.prog Try.f4 false true false false) := by
  refine returnsInHanded_of_change_sized (C := Try.checked) own started (by kernel_rfl) Try.func4
    (ChangeSpec.witness6 (enc := enc) (C := Try.checked) false ⟨#[], #[.agg #[.slice none 0 0, .slice none 0 0, .slice none 0 0, .slice none 0 0, .slice none 0 0, .int .i64 0], .agg #[.int .i64 0, .int .i64 0, .slice none 0 0], .agg #[.int .i64 0, .int .i64 0, .int .i64 0], .agg #[.int .i64 0, .int .i64 0, .int .i64 0]], []⟩ 8 (by kernel_rfl) (by kernel_rfl) (by kernel_rfl) (by kernel_rfl)) ?_
  intro W base args ds gs before hval hW _ hsz _
  exact contract H enc W base args ds gs before hval hW hsz
theorem said : Rows.ApartCommonsSaid :=
  OpenClaim.holds_of_wide 4 Try.f4 rfl rfl rfl rfl rfl rfl rfl ⟨rfl, rfl, rfl, rfl, rfl⟩ rfl rfl rfl rfl rfl (by kernel_rfl) Try.func4 (by kernel_rfl)
    (of_decide_eq_true (by kernel_rfl)) (by unfold Func.isWrapper; first | (rw [if_pos (by decide +kernel)]; kernel_rfl) | (rw [if_neg (by decide +kernel)]; exact ⟨rfl, rfl⟩))
    (fun os started H enc _ => lifted os started H enc)
end Go.Proofs.Ytijaioiojclooaa.apartCommons
end
