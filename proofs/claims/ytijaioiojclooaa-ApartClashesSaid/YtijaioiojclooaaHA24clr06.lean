/- Parts of the proof: A24cl. -/
import Derived.Test.YtijaioiojclooaaG32
import Derived.Test.YtijaioiojclooaaG08
import Derived.Test.YtijaioiojclooaaHA24clr01
import Derived.Test.YtijaioiojclooaaG30
import Derived.Test.YtijaioiojclooaaHA24clr04
import Derived.Test.YtijaioiojclooaaG07
import Derived.Laws.StructEq
import Derived.Test.YtijaioiojclooaaG29
import Derived.Test.YtijaioiojclooaaG18
import Derived.Test.YtijaioiojclooaaG26
import Derived.Test.YtijaioiojclooaaG27
import Derived.Test.YtijaioiojclooaaG28
import Derived.Test.YtijaioiojclooaaProg
import Derived.Test.YtijaioiojclooaaG16
import Derived.Test.YtijaioiojclooaaG25
import Derived.Test.YtijaioiojclooaaG11
import Derived.Test.YtijaioiojclooaaG06
import Derived.Test.YtijaioiojclooaaG17
import Derived.Test.YtijaioiojclooaaHA24clr03
import Derived.Test.YtijaioiojclooaaG10
import Derived.WalkKit
import Derived.Test.YtijaioiojclooaaG01
import Derived.Test.YtijaioiojclooaaG24
import Derived.Test.YtijaioiojclooaaG05
import Derived.Great.BuildSlice
import Derived.Lib.Hide
import Derived.Deep.QuietTactic
import Derived.BigQuiet
import Derived.Deep.DrawnRows
import Derived.Deep.AppendLies
import Derived.Maps.AppendAt
import Derived.OwnWalk
import Derived.Test.YtijaioiojclooaaG23
import Derived.Test.YtijaioiojclooaaG04
import Derived.StillTail
import Derived.Below
import Derived.Deep.Draws
import Derived.KernelRfl
import Derived.Scope
import Derived.Test.YtijaioiojclooaaG03
import Derived.RangeFuncLeaves
import Derived.RangeFuncRecord
import Derived.Test.YtijaioiojclooaaG21
import Derived.Test.YtijaioiojclooaaG22
import Derived.Test.YtijaioiojclooaaG09
import Derived.Test.YtijaioiojclooaaG02
import Derived.Shelf.Abstract
import Derived.OrdersIn
import Derived.TacticsIn
import Derived.RangeFuncCalls
import Derived.Test.YtijaioiojclooaaG20
import Derived.RangeFuncNested
import Derived.Test.YtijaioiojclooaaHA24clr02
import Derived.Laws.Cover3
import Derived.Test.YtijaioiojclooaaG19
import Derived.Test.YtijaioiojclooaaG15
import Derived.Test.YtijaioiojclooaaG14
import Derived.Test.YtijaioiojclooaaG13
import Derived.Test.YtijaioiojclooaaG12
set_option linter.unusedSimpArgs false
set_option linter.unusedVariables false
section
namespace Go.Proofs.Ytijaioiojclooaa
open Go.RowKit Go.Flow Go.AV Go.Plain
abbrev bpZ : Bp := ⟨0, 0, 0, fun _ => false⟩
abbrev maps4 (a b c d e f g h : Bp) : List CV := bpC a ++ bpC b ++ bpC c ++ bpC d ++ bpC e ++ bpC f ++ bpC g ++ bpC h
abbrev buds3 (a b c d e f : Bg) : List CV := bgC a ++ bgC b ++ bgC c ++ bgC d ++ bgC e ++ bgC f
theorem cl_self (r : Cl) (w : World) : (Go.binOp .neq 40 (.agg #[.int .i64 r.dx, .int .i64 r.dy, .int .i64 r.col]) (.agg #[.int .i64 r.dx, .int .i64 r.dy, .int .i64 r.col])).run Try.prog w = .ok (.bool false) w := (cl_ne r r w).trans (by rw [decide_eq_true rfl]; rfl)
theorem mo_self (r : Int × Int) (w : World) : (Go.binOp .neq 48 (.agg #[.int .i64 r.1, .int .i64 r.2]) (.agg #[.int .i64 r.1, .int .i64 r.2])).run Try.prog w = .ok (.bool false) w := (mo_ne r r w).trans (by rw [decide_eq_true rfl]; rfl)
/-- A box that is kept, whatever its cells. -/
theorem cells_same {l : List CV} {n : Nat} (h : l.length = n) : cellsFrom (lF l 0) 0 n = l := by
  subst h
  have : ∀ (m : List CV) (i : Nat), l.drop i = m → i + m.length = l.length → cellsFrom (lF l 0) i m.length = m := fun m => by
    induction m with
    | nil => intro i _ _; rfl
    | cons x m ih =>
      intro i h1 h2
      have hx : l[i]? = some x := by
        have e := List.getElem?_drop (xs := l) (i := i) (j := 0)
        rw [h1] at e
        simpa using e.symm
      show lF l 0 i :: cellsFrom (lF l 0) (i + 1) m.length = x :: m
      rw [ih (i + 1) (by rw [← List.drop_drop, h1]; rfl) (by simp at h2; omega)]
      congr 1
      show l.getD i .any = x
      rw [List.getD_eq_getElem?_getD, hx]
      rfl
  exact this l 0 rfl (by simp)
theorem boxSame {S : St} {ren : List (Nat × Option Nat)} {id o sz : Nat} {ty : TypeId} {l : List CV} (hr : assoc ren id = some (some o)) (hh : S.h o = some ⟨false, 1, sz, ty, lF l⟩) (hi : l.all immC = true) (hl : l.length = sz) : HeapOk S ren id ⟨false, 1, sz, ty, lF l⟩ := HeapOk.same hr hh (cells_same hl) hi
set_option maxHeartbeats 4000000 in
set_option maxRecDepth 100000 in
theorem ApartClashes_A (c : Ca) (raw : Bp) (one two : Bg) (hc : c.ok) : ECalls Try.prog 3 [.ag (caC c), .ag (bpC raw), .ag (bgC one), .ag (bgC two)] (fun v => v = .c (bC true)) := by
  have hM := made24_A c hc
  have hb := ma_cmp c
  have hab := ma_bd c
  have hcu := cut24_A raw
  obtain ⟨q0, q1, q2, q3, q4⟩ := okB hb.2.1
  obtain ⟨od, hO⟩ := Odd24_A (maB c) c.q (by omega) (by omega) (by have := Int.mul_le_mul q1 q3 q2 (by omega); omega) hc.2.2.2.2.2
  generalize maA c = a at *
  generalize maB c = b at *
  generalize maX c = x at *
  generalize maY c = y at *
  generalize cutB raw = cr at *
  refine ecalls_at Try.func3 rfl rfl Try.ntmps3 rfl ?_
  repeat (first
    | refine AWp.seq ?_
    | refine thenA_n ?_
    | refine AWp.block ?_
    | (refine AWp.region (id := 0) ?_; refine AList.box rfl rfl rfl rfl rfl ?_; refine AList.box rfl rfl rfl rfl rfl ?_; refine AList.box rfl rfl rfl rfl rfl ?_; refine AList.box rfl rfl rfl rfl rfl ?_; refine AList.assign rfl rfl rfl ?_; refine AList.nil ?_)
    | (refine AWp.region (id := 1) ?_; refine AList.call rfl rfl rfl rfl Try.func9 rfl (by kernel_rfl) (sanity24_A) ?_; refine AList.assign rfl rfl rfl ?_; refine AList.nil ?_)
    | (refine AWp.region (id := 2) ?_; refine AList.loadA tyOk rfl rfl rfl rfl rfl rfl rfl oM oM ?_; refine AList.call rfl rfl rfl rfl Try.func10 rfl (by kernel_rfl) (hM) ?_; refine AList.move rfl rfl rfl ?_; refine AList.extract rfl rfl rfl rfl ?_; refine AList.extract rfl rfl rfl rfl ?_; refine AList.extract rfl rfl rfl rfl ?_; refine AList.extract rfl rfl rfl rfl ?_; refine AList.alloc tyOk rfl rfl rfl rfl rfl ?_; refine AList.alloc tyOk rfl rfl rfl rfl rfl ?_; refine AList.alloc tyOk rfl rfl rfl rfl rfl ?_; refine AList.alloc tyOk rfl rfl rfl rfl rfl ?_; refine AList.store tyOk rfl rfl rfl rfl rfl rfl rfl rfl oM oM ?_; refine AList.store tyOk rfl rfl rfl rfl rfl rfl rfl rfl oM oM ?_; refine AList.store tyOk rfl rfl rfl rfl rfl rfl rfl rfl oM oM ?_; refine AList.store tyOk rfl rfl rfl rfl rfl rfl rfl rfl oM oM ?_; refine AList.nil ?_)
    | (refine AWp.draw (id := 3) mixed ?_; refine AList.loadA tyOk rfl rfl rfl rfl rfl rfl rfl oM oM ?_; refine AList.loadA tyOk rfl rfl rfl rfl rfl rfl rfl oM oM ?_; refine AList.buildArr tyOk rfl rfl rfl rfl rfl rfl rfl rfl ?_; refine AList.loadA tyOk rfl rfl rfl rfl rfl rfl rfl oM oM ?_; refine AList.loadA tyOk rfl rfl rfl rfl rfl rfl rfl oM oM ?_; refine AList.fieldPt tyOk rfl rfl rfl rfl rfl rfl rfl ?_; refine AList.load1 tyOk rfl rfl rfl rfl rfl rfl rfl oM oM ?_; refine AList.call rfl rfl rfl rfl Try.func11 rfl (by kernel_rfl) (hO) ?_; refine AList.buildArr tyOk rfl rfl rfl rfl rfl rfl rfl rfl ?_; refine AList.loadA tyOk rfl rfl rfl rfl rfl rfl rfl oM oM ?_; refine AList.call rfl rfl rfl rfl Try.func12 rfl (by kernel_rfl) (hcu) ?_; refine AList.loadA tyOk rfl rfl rfl rfl rfl rfl rfl oM oM ?_; refine AList.call rfl rfl rfl rfl Try.func12 rfl (by kernel_rfl) (hcu) ?_; refine AList.buildArr tyOk rfl rfl rfl rfl rfl rfl rfl rfl ?_; refine AList.loadA tyOk rfl rfl rfl rfl rfl rfl rfl oM oM ?_; refine AList.loadA tyOk rfl rfl rfl rfl rfl rfl rfl oM oM ?_; refine AList.call rfl rfl rfl rfl Try.func12 rfl (by kernel_rfl) (hcu) ?_; refine AList.buildArr tyOk rfl rfl rfl rfl rfl rfl rfl rfl ?_; refine AList.buildArr tyOk rfl rfl rfl rfl rfl rfl rfl rfl ?_; refine AList.alloc tyOk rfl rfl rfl rfl rfl ?_; refine AList.store tyOk rfl rfl rfl rfl rfl rfl rfl rfl oM oM ?_; refine AList.nil ⟨by kernel_rfl, ?_⟩)
    | (refine AWp.region (id := 4) ?_; refine AList.loadA tyOk rfl rfl rfl rfl rfl rfl rfl oM oM ?_; refine AList.loadA tyOk rfl rfl rfl rfl rfl rfl rfl oM oM ?_; refine AList.buildArr tyOk rfl rfl rfl rfl rfl rfl rfl rfl ?_; refine AList.loadA tyOk rfl rfl rfl rfl rfl rfl rfl oM oM ?_; refine AList.loadA tyOk rfl rfl rfl rfl rfl rfl rfl oM oM ?_; refine AList.buildArr tyOk rfl rfl rfl rfl rfl rfl rfl rfl ?_; refine AList.loadA tyOk rfl rfl rfl rfl rfl rfl rfl oM oM ?_; refine AList.loadA tyOk rfl rfl rfl rfl rfl rfl rfl oM oM ?_; refine AList.buildArr tyOk rfl rfl rfl rfl rfl rfl rfl rfl ?_; refine AList.buildArr tyOk rfl rfl rfl rfl rfl rfl rfl rfl ?_; refine AList.alloc tyOk rfl rfl rfl rfl rfl ?_; refine AList.store tyOk rfl rfl rfl rfl rfl rfl rfl rfl oM oM ?_; refine AList.nil ?_)
    | (refine AWp.region (id := 5) ?_; refine AList.assign rfl rfl rfl ?_; refine AList.nil ?_))
  obtain ⟨P, hP⟩ : ∃ P : Nat → Bp, P = fun k => [a, a, cr, b].getD k bpZ := ⟨_, rfl⟩
  obtain ⟨R, hR⟩ : ∃ R : Nat → Bp, R = fun k => [b, od, cr, cr].getD k bpZ := ⟨_, rfl⟩
  obtain ⟨V, hV⟩ : ∃ V : Nat → Bg, V = fun k => [x, one, x].getD k bgZ := ⟨_, rfl⟩
  obtain ⟨U, hU⟩ : ∃ U : Nat → Bg, U = fun k => [y, two, two].getD k bgZ := ⟨_, rfl⟩
  obtain ⟨mp, hmp⟩ : ∃ l, maps4 a b a od cr cr b cr = l := ⟨_, rfl⟩
  obtain ⟨bu, hbu⟩ : ∃ l, buds3 x y one two x two = l := ⟨_, rfl⟩
  have hmi : mp.all immC = true := by rw [← hmp]; rfl
  have hml : mp.length = 24 := by rw [← hmp]; rfl
  have hbi : bu.all immC = true := by rw [← hbu]; rfl
  have hbl : bu.length = 24 := by rw [← hbu]; rfl
  refine AWp.round (fun k : Nat => mkSt 188 [(9, .c (bC true)), (14, .c (.pt 14 24 0 0)), (15, .c (.pt 15 24 0 0)), (16, .c (iC k))] [(14, ⟨false, 1, 24, 36, lF mp⟩), (15, ⟨false, 1, 24, 38, lF bu⟩)] [14, 15])
    (fun k => k ≤ 4) (fun k => 4 - k) 0 (Nat.zero_le _) ?_ (fun k hk => ?_)
  · rw [← hmp, ← hbu]
    refine Wk.mk [(14, some 14), (15, some 15)] rfl rfl rfl ?_ ?_
    · repeat (first | exact trivial | refine ⟨⟨_, rfl, by first | exact LeA.c (LeC.refl _ rfl) | exact LeA.c (LeC.ow _ _ rfl) | exact LeA.c (LeC.pt _ _ _ _ _ rfl) | exact LeA.c (LeC.nil _ rfl) | exact LeA.c (LeC.nils _ _) | (refine LeA.int ?_; omega) | (refine LeA.int ?_; dsimp only; omega) | exact LeA.c (LeC.fz rfl rfl (by first | rfl | omega) (fun i _ j _ => ⟨rfl, by first | rfl | exact rowN_imm (fun _ => rfl) _ i j | exact rowF_imm (fun _ => rfl) _ i j⟩))⟩, ?_⟩)
    · repeat (first | exact trivial | refine ⟨by first | exact HeapOk.same rfl rfl rfl rfl | exact HeapOk.lent rfl rfl rfl rfl | exact HeapOk.nil rfl rfl | exact HeapOk.row rfl rfl (by first | rfl | omega) (fun i _ j _ => ⟨rfl, by first | rfl | exact rowN_imm (fun _ => rfl) _ i j | exact rowF_imm (fun _ => rfl) _ i j⟩) | exact HeapOk.box rfl rfl (by repeat (first | exact trivial | refine ⟨by first | exact LeC.refl _ rfl | exact LeC.ow _ _ rfl | exact LeC.nil _ rfl | exact LeC.nils _ _ | exact LeC.fz rfl rfl (by first | rfl | omega) (fun i _ j _ => ⟨rfl, by first | rfl | exact rowN_imm (fun _ => rfl) _ i j | exact rowF_imm (fun _ => rfl) _ i j⟩) | exact LeC.int (by omega), ?_⟩)) rfl, ?_⟩)
  · by_cases hk4 : k < 4
    · repeat (first
        | refine AWp.seq ?_
        | refine thenA_n ?_
        | refine AWp.block ?_
        | refine AWp.skip ?_
        | refine AWp.condT rfl (by first | rfl | assumption | exact cmT) ?_
        | (refine AWp.region (id := 6) ?_; refine AList.move rfl rfl rfl ?_; refine AList.cmpT rfl rfl rfl rfl rfl cmT ?_; refine AList.nil ?_)
        | (refine AWp.region (id := 8) ?_; refine AList.assign rfl rfl rfl ?_; refine AList.nil ?_))
      refine AWp.round (fun i : Nat => mkSt 188 [(9, .c (bC true)), (14, .c (.pt 14 24 0 0)), (15, .c (.pt 15 24 0 0)), (16, .c (iC k)), (17, .c (iC i))] [(14, ⟨false, 1, 24, 36, lF mp⟩), (15, ⟨false, 1, 24, 38, lF bu⟩)] [14, 15])
        (fun i => i ≤ 3) (fun i => 3 - i) 0 (Nat.zero_le _) ?_ (fun i hi => ?_)
      · refine Wk.mk [(14, some 14), (15, some 15)] rfl rfl rfl ?_ ?_
        · repeat (first | exact trivial | refine ⟨⟨_, rfl, by first | exact LeA.c (LeC.refl _ rfl) | exact LeA.c (LeC.ow _ _ rfl) | exact LeA.c (LeC.pt _ _ _ _ _ rfl) | exact LeA.c (LeC.nil _ rfl) | exact LeA.c (LeC.nils _ _) | (refine LeA.int ?_; omega) | (refine LeA.int ?_; dsimp only; omega) | exact LeA.c (LeC.fz rfl rfl (by first | rfl | omega) (fun i _ j _ => ⟨rfl, by first | rfl | exact rowN_imm (fun _ => rfl) _ i j | exact rowF_imm (fun _ => rfl) _ i j⟩))⟩, ?_⟩)
        · exact ⟨boxSame rfl rfl hmi hml, boxSame rfl rfl hbi hbl, trivial⟩
      · by_cases hi3 : i < 3
        · repeat (first
            | refine AWp.seq ?_
            | refine thenA_n ?_
            | refine AWp.block ?_
            | refine AWp.skip ?_
            | refine AWp.condT rfl (by first | rfl | assumption | exact cmT) ?_
            | (refine AWp.region (id := 9) ?_; refine AList.move rfl rfl rfl ?_; refine AList.cmpT rfl rfl rfl rfl rfl cmT ?_; refine AList.nil ?_))
          refine AWp.cut (mkSt 188 [(9, .c (bC true)), (14, .c (.pt 14 24 0 0)), (15, .c (.pt 15 24 0 0)), (16, .c (iC k)), (17, .c (iC i)), (18, .c (.pt 18 3 0 0)), (19, .c (.pt 19 3 0 0)), (20, .c (.pt 20 4 0 0)), (21, .c (.pt 21 4 0 0))] [(14, ⟨false, 1, 24, 36, lF mp⟩), (15, ⟨false, 1, 24, 38, lF bu⟩), (18, ⟨false, 1, 3, 27, lF (bpC (P k))⟩), (19, ⟨false, 1, 3, 27, lF (bpC (R k))⟩), (20, ⟨false, 1, 4, 29, lF (bgC (V i))⟩), (21, ⟨false, 1, 4, 29, lF (bgC (U i))⟩)] [14, 15, 18, 19, 20, 21]) ?_ (fun S2 hw2 => AWp.weak hw2 ?_)
          · subst hP hR hV hU hmp hbu
            obtain rfl | rfl | rfl | rfl : k = 0 ∨ k = 1 ∨ k = 2 ∨ k = 3 := by omega
            all_goals obtain rfl | rfl | rfl : i = 0 ∨ i = 1 ∨ i = 2 := by omega
            · repeat (first
                | (refine AWp.draw (id := 11) mixed ?_; refine AList.move rfl rfl rfl ?_; refine AList.idxArr (i := 0) tyOk rfl rfl rfl rfl rfl rfl rfl (by first | rfl | omega) oM ?_; refine AList.idxArr tyOk rfl rfl rfl rfl rfl rfl rfl rfl oM ?_; refine AList.loadA tyOk rfl rfl rfl rfl rfl rfl rfl oM oM ?_; refine AList.move rfl rfl rfl ?_; refine AList.idxArr (i := 0) tyOk rfl rfl rfl rfl rfl rfl rfl (by first | rfl | omega) oM ?_; refine AList.idxArr tyOk rfl rfl rfl rfl rfl rfl rfl rfl oM ?_; refine AList.loadA tyOk rfl rfl rfl rfl rfl rfl rfl oM oM ?_; refine AList.move rfl rfl rfl ?_; refine AList.idxArr (i := 0) tyOk rfl rfl rfl rfl rfl rfl rfl (by first | rfl | omega) oM ?_; refine AList.idxArr tyOk rfl rfl rfl rfl rfl rfl rfl rfl oM ?_; refine AList.loadA tyOk rfl rfl rfl rfl rfl rfl rfl oM oM ?_; refine AList.move rfl rfl rfl ?_; refine AList.idxArr (i := 0) tyOk rfl rfl rfl rfl rfl rfl rfl (by first | rfl | omega) oM ?_; refine AList.idxArr tyOk rfl rfl rfl rfl rfl rfl rfl rfl oM ?_; refine AList.loadA tyOk rfl rfl rfl rfl rfl rfl rfl oM oM ?_; refine AList.alloc tyOk rfl rfl rfl rfl rfl ?_; refine AList.alloc tyOk rfl rfl rfl rfl rfl ?_; refine AList.alloc tyOk rfl rfl rfl rfl rfl ?_; refine AList.alloc tyOk rfl rfl rfl rfl rfl ?_; refine AList.store tyOk rfl rfl rfl rfl rfl rfl rfl rfl oM oM ?_; refine AList.store tyOk rfl rfl rfl rfl rfl rfl rfl rfl oM oM ?_; refine AList.store tyOk rfl rfl rfl rfl rfl rfl rfl rfl oM oM ?_; refine AList.store tyOk rfl rfl rfl rfl rfl rfl rfl rfl oM oM ?_; refine AList.nil ⟨by kernel_rfl, ?_⟩))
              refine ⟨rfl, Wk.mk [(14, some 14), (15, some 15), (18, some 18), (19, some 19), (20, some 20), (21, some 21)] rfl rfl rfl ?_ ?_⟩
              · repeat (first | exact trivial | refine ⟨⟨_, rfl, by first | exact LeA.c (LeC.refl _ rfl) | exact LeA.c (LeC.ow _ _ rfl) | exact LeA.c (LeC.pt _ _ _ _ _ rfl) | exact LeA.c (LeC.nil _ rfl) | exact LeA.c (LeC.nils _ _) | (refine LeA.int ?_; omega) | (refine LeA.int ?_; dsimp only; omega) | exact LeA.c (LeC.fz rfl rfl (by first | rfl | omega) (fun i _ j _ => ⟨rfl, by first | rfl | exact rowN_imm (fun _ => rfl) _ i j | exact rowF_imm (fun _ => rfl) _ i j⟩))⟩, ?_⟩)
              · repeat (first | exact trivial | refine ⟨by first | exact HeapOk.same rfl rfl rfl rfl | exact HeapOk.lent rfl rfl rfl rfl | exact HeapOk.nil rfl rfl | exact HeapOk.row rfl rfl (by first | rfl | omega) (fun i _ j _ => ⟨rfl, by first | rfl | exact rowN_imm (fun _ => rfl) _ i j | exact rowF_imm (fun _ => rfl) _ i j⟩) | exact HeapOk.box rfl rfl (by repeat (first | exact trivial | refine ⟨by first | exact LeC.refl _ rfl | exact LeC.ow _ _ rfl | exact LeC.nil _ rfl | exact LeC.nils _ _ | exact LeC.fz rfl rfl (by first | rfl | omega) (fun i _ j _ => ⟨rfl, by first | rfl | exact rowN_imm (fun _ => rfl) _ i j | exact rowF_imm (fun _ => rfl) _ i j⟩) | exact LeC.int (by omega), ?_⟩)) rfl, ?_⟩)
            · repeat (first
                | (refine AWp.draw (id := 11) mixed ?_; refine AList.move rfl rfl rfl ?_; refine AList.idxArr (i := 0) tyOk rfl rfl rfl rfl rfl rfl rfl (by first | rfl | omega) oM ?_; refine AList.idxArr tyOk rfl rfl rfl rfl rfl rfl rfl rfl oM ?_; refine AList.loadA tyOk rfl rfl rfl rfl rfl rfl rfl oM oM ?_; refine AList.move rfl rfl rfl ?_; refine AList.idxArr (i := 0) tyOk rfl rfl rfl rfl rfl rfl rfl (by first | rfl | omega) oM ?_; refine AList.idxArr tyOk rfl rfl rfl rfl rfl rfl rfl rfl oM ?_; refine AList.loadA tyOk rfl rfl rfl rfl rfl rfl rfl oM oM ?_; refine AList.move rfl rfl rfl ?_; refine AList.idxArr (i := 1) tyOk rfl rfl rfl rfl rfl rfl rfl (by first | rfl | omega) oM ?_; refine AList.idxArr tyOk rfl rfl rfl rfl rfl rfl rfl rfl oM ?_; refine AList.loadA tyOk rfl rfl rfl rfl rfl rfl rfl oM oM ?_; refine AList.move rfl rfl rfl ?_; refine AList.idxArr (i := 1) tyOk rfl rfl rfl rfl rfl rfl rfl (by first | rfl | omega) oM ?_; refine AList.idxArr tyOk rfl rfl rfl rfl rfl rfl rfl rfl oM ?_; refine AList.loadA tyOk rfl rfl rfl rfl rfl rfl rfl oM oM ?_; refine AList.alloc tyOk rfl rfl rfl rfl rfl ?_; refine AList.alloc tyOk rfl rfl rfl rfl rfl ?_; refine AList.alloc tyOk rfl rfl rfl rfl rfl ?_; refine AList.alloc tyOk rfl rfl rfl rfl rfl ?_; refine AList.store tyOk rfl rfl rfl rfl rfl rfl rfl rfl oM oM ?_; refine AList.store tyOk rfl rfl rfl rfl rfl rfl rfl rfl oM oM ?_; refine AList.store tyOk rfl rfl rfl rfl rfl rfl rfl rfl oM oM ?_; refine AList.store tyOk rfl rfl rfl rfl rfl rfl rfl rfl oM oM ?_; refine AList.nil ⟨by kernel_rfl, ?_⟩))
              refine ⟨rfl, Wk.mk [(14, some 14), (15, some 15), (18, some 18), (19, some 19), (20, some 20), (21, some 21)] rfl rfl rfl ?_ ?_⟩
              · repeat (first | exact trivial | refine ⟨⟨_, rfl, by first | exact LeA.c (LeC.refl _ rfl) | exact LeA.c (LeC.ow _ _ rfl) | exact LeA.c (LeC.pt _ _ _ _ _ rfl) | exact LeA.c (LeC.nil _ rfl) | exact LeA.c (LeC.nils _ _) | (refine LeA.int ?_; omega) | (refine LeA.int ?_; dsimp only; omega) | exact LeA.c (LeC.fz rfl rfl (by first | rfl | omega) (fun i _ j _ => ⟨rfl, by first | rfl | exact rowN_imm (fun _ => rfl) _ i j | exact rowF_imm (fun _ => rfl) _ i j⟩))⟩, ?_⟩)
              · repeat (first | exact trivial | refine ⟨by first | exact HeapOk.same rfl rfl rfl rfl | exact HeapOk.lent rfl rfl rfl rfl | exact HeapOk.nil rfl rfl | exact HeapOk.row rfl rfl (by first | rfl | omega) (fun i _ j _ => ⟨rfl, by first | rfl | exact rowN_imm (fun _ => rfl) _ i j | exact rowF_imm (fun _ => rfl) _ i j⟩) | exact HeapOk.box rfl rfl (by repeat (first | exact trivial | refine ⟨by first | exact LeC.refl _ rfl | exact LeC.ow _ _ rfl | exact LeC.nil _ rfl | exact LeC.nils _ _ | exact LeC.fz rfl rfl (by first | rfl | omega) (fun i _ j _ => ⟨rfl, by first | rfl | exact rowN_imm (fun _ => rfl) _ i j | exact rowF_imm (fun _ => rfl) _ i j⟩) | exact LeC.int (by omega), ?_⟩)) rfl, ?_⟩)
            · repeat (first
                | (refine AWp.draw (id := 11) mixed ?_; refine AList.move rfl rfl rfl ?_; refine AList.idxArr (i := 0) tyOk rfl rfl rfl rfl rfl rfl rfl (by first | rfl | omega) oM ?_; refine AList.idxArr tyOk rfl rfl rfl rfl rfl rfl rfl rfl oM ?_; refine AList.loadA tyOk rfl rfl rfl rfl rfl rfl rfl oM oM ?_; refine AList.move rfl rfl rfl ?_; refine AList.idxArr (i := 0) tyOk rfl rfl rfl rfl rfl rfl rfl (by first | rfl | omega) oM ?_; refine AList.idxArr tyOk rfl rfl rfl rfl rfl rfl rfl rfl oM ?_; refine AList.loadA tyOk rfl rfl rfl rfl rfl rfl rfl oM oM ?_; refine AList.move rfl rfl rfl ?_; refine AList.idxArr (i := 2) tyOk rfl rfl rfl rfl rfl rfl rfl (by first | rfl | omega) oM ?_; refine AList.idxArr tyOk rfl rfl rfl rfl rfl rfl rfl rfl oM ?_; refine AList.loadA tyOk rfl rfl rfl rfl rfl rfl rfl oM oM ?_; refine AList.move rfl rfl rfl ?_; refine AList.idxArr (i := 2) tyOk rfl rfl rfl rfl rfl rfl rfl (by first | rfl | omega) oM ?_; refine AList.idxArr tyOk rfl rfl rfl rfl rfl rfl rfl rfl oM ?_; refine AList.loadA tyOk rfl rfl rfl rfl rfl rfl rfl oM oM ?_; refine AList.alloc tyOk rfl rfl rfl rfl rfl ?_; refine AList.alloc tyOk rfl rfl rfl rfl rfl ?_; refine AList.alloc tyOk rfl rfl rfl rfl rfl ?_; refine AList.alloc tyOk rfl rfl rfl rfl rfl ?_; refine AList.store tyOk rfl rfl rfl rfl rfl rfl rfl rfl oM oM ?_; refine AList.store tyOk rfl rfl rfl rfl rfl rfl rfl rfl oM oM ?_; refine AList.store tyOk rfl rfl rfl rfl rfl rfl rfl rfl oM oM ?_; refine AList.store tyOk rfl rfl rfl rfl rfl rfl rfl rfl oM oM ?_; refine AList.nil ⟨by kernel_rfl, ?_⟩))
              refine ⟨rfl, Wk.mk [(14, some 14), (15, some 15), (18, some 18), (19, some 19), (20, some 20), (21, some 21)] rfl rfl rfl ?_ ?_⟩
              · repeat (first | exact trivial | refine ⟨⟨_, rfl, by first | exact LeA.c (LeC.refl _ rfl) | exact LeA.c (LeC.ow _ _ rfl) | exact LeA.c (LeC.pt _ _ _ _ _ rfl) | exact LeA.c (LeC.nil _ rfl) | exact LeA.c (LeC.nils _ _) | (refine LeA.int ?_; omega) | (refine LeA.int ?_; dsimp only; omega) | exact LeA.c (LeC.fz rfl rfl (by first | rfl | omega) (fun i _ j _ => ⟨rfl, by first | rfl | exact rowN_imm (fun _ => rfl) _ i j | exact rowF_imm (fun _ => rfl) _ i j⟩))⟩, ?_⟩)
              · repeat (first | exact trivial | refine ⟨by first | exact HeapOk.same rfl rfl rfl rfl | exact HeapOk.lent rfl rfl rfl rfl | exact HeapOk.nil rfl rfl | exact HeapOk.row rfl rfl (by first | rfl | omega) (fun i _ j _ => ⟨rfl, by first | rfl | exact rowN_imm (fun _ => rfl) _ i j | exact rowF_imm (fun _ => rfl) _ i j⟩) | exact HeapOk.box rfl rfl (by repeat (first | exact trivial | refine ⟨by first | exact LeC.refl _ rfl | exact LeC.ow _ _ rfl | exact LeC.nil _ rfl | exact LeC.nils _ _ | exact LeC.fz rfl rfl (by first | rfl | omega) (fun i _ j _ => ⟨rfl, by first | rfl | exact rowN_imm (fun _ => rfl) _ i j | exact rowF_imm (fun _ => rfl) _ i j⟩) | exact LeC.int (by omega), ?_⟩)) rfl, ?_⟩)
            · repeat (first
                | (refine AWp.draw (id := 11) mixed ?_; refine AList.move rfl rfl rfl ?_; refine AList.idxArr (i := 1) tyOk rfl rfl rfl rfl rfl rfl rfl (by first | rfl | omega) oM ?_; refine AList.idxArr tyOk rfl rfl rfl rfl rfl rfl rfl rfl oM ?_; refine AList.loadA tyOk rfl rfl rfl rfl rfl rfl rfl oM oM ?_; refine AList.move rfl rfl rfl ?_; refine AList.idxArr (i := 1) tyOk rfl rfl rfl rfl rfl rfl rfl (by first | rfl | omega) oM ?_; refine AList.idxArr tyOk rfl rfl rfl rfl rfl rfl rfl rfl oM ?_; refine AList.loadA tyOk rfl rfl rfl rfl rfl rfl rfl oM oM ?_; refine AList.move rfl rfl rfl ?_; refine AList.idxArr (i := 0) tyOk rfl rfl rfl rfl rfl rfl rfl (by first | rfl | omega) oM ?_; refine AList.idxArr tyOk rfl rfl rfl rfl rfl rfl rfl rfl oM ?_; refine AList.loadA tyOk rfl rfl rfl rfl rfl rfl rfl oM oM ?_; refine AList.move rfl rfl rfl ?_; refine AList.idxArr (i := 0) tyOk rfl rfl rfl rfl rfl rfl rfl (by first | rfl | omega) oM ?_; refine AList.idxArr tyOk rfl rfl rfl rfl rfl rfl rfl rfl oM ?_; refine AList.loadA tyOk rfl rfl rfl rfl rfl rfl rfl oM oM ?_; refine AList.alloc tyOk rfl rfl rfl rfl rfl ?_; refine AList.alloc tyOk rfl rfl rfl rfl rfl ?_; refine AList.alloc tyOk rfl rfl rfl rfl rfl ?_; refine AList.alloc tyOk rfl rfl rfl rfl rfl ?_; refine AList.store tyOk rfl rfl rfl rfl rfl rfl rfl rfl oM oM ?_; refine AList.store tyOk rfl rfl rfl rfl rfl rfl rfl rfl oM oM ?_; refine AList.store tyOk rfl rfl rfl rfl rfl rfl rfl rfl oM oM ?_; refine AList.store tyOk rfl rfl rfl rfl rfl rfl rfl rfl oM oM ?_; refine AList.nil ⟨by kernel_rfl, ?_⟩))
              refine ⟨rfl, Wk.mk [(14, some 14), (15, some 15), (18, some 18), (19, some 19), (20, some 20), (21, some 21)] rfl rfl rfl ?_ ?_⟩
              · repeat (first | exact trivial | refine ⟨⟨_, rfl, by first | exact LeA.c (LeC.refl _ rfl) | exact LeA.c (LeC.ow _ _ rfl) | exact LeA.c (LeC.pt _ _ _ _ _ rfl) | exact LeA.c (LeC.nil _ rfl) | exact LeA.c (LeC.nils _ _) | (refine LeA.int ?_; omega) | (refine LeA.int ?_; dsimp only; omega) | exact LeA.c (LeC.fz rfl rfl (by first | rfl | omega) (fun i _ j _ => ⟨rfl, by first | rfl | exact rowN_imm (fun _ => rfl) _ i j | exact rowF_imm (fun _ => rfl) _ i j⟩))⟩, ?_⟩)
              · repeat (first | exact trivial | refine ⟨by first | exact HeapOk.same rfl rfl rfl rfl | exact HeapOk.lent rfl rfl rfl rfl | exact HeapOk.nil rfl rfl | exact HeapOk.row rfl rfl (by first | rfl | omega) (fun i _ j _ => ⟨rfl, by first | rfl | exact rowN_imm (fun _ => rfl) _ i j | exact rowF_imm (fun _ => rfl) _ i j⟩) | exact HeapOk.box rfl rfl (by repeat (first | exact trivial | refine ⟨by first | exact LeC.refl _ rfl | exact LeC.ow _ _ rfl | exact LeC.nil _ rfl | exact LeC.nils _ _ | exact LeC.fz rfl rfl (by first | rfl | omega) (fun i _ j _ => ⟨rfl, by first | rfl | exact rowN_imm (fun _ => rfl) _ i j | exact rowF_imm (fun _ => rfl) _ i j⟩) | exact LeC.int (by omega), ?_⟩)) rfl, ?_⟩)
            · repeat (first
                | (refine AWp.draw (id := 11) mixed ?_; refine AList.move rfl rfl rfl ?_; refine AList.idxArr (i := 1) tyOk rfl rfl rfl rfl rfl rfl rfl (by first | rfl | omega) oM ?_; refine AList.idxArr tyOk rfl rfl rfl rfl rfl rfl rfl rfl oM ?_; refine AList.loadA tyOk rfl rfl rfl rfl rfl rfl rfl oM oM ?_; refine AList.move rfl rfl rfl ?_; refine AList.idxArr (i := 1) tyOk rfl rfl rfl rfl rfl rfl rfl (by first | rfl | omega) oM ?_; refine AList.idxArr tyOk rfl rfl rfl rfl rfl rfl rfl rfl oM ?_; refine AList.loadA tyOk rfl rfl rfl rfl rfl rfl rfl oM oM ?_; refine AList.move rfl rfl rfl ?_; refine AList.idxArr (i := 1) tyOk rfl rfl rfl rfl rfl rfl rfl (by first | rfl | omega) oM ?_; refine AList.idxArr tyOk rfl rfl rfl rfl rfl rfl rfl rfl oM ?_; refine AList.loadA tyOk rfl rfl rfl rfl rfl rfl rfl oM oM ?_; refine AList.move rfl rfl rfl ?_; refine AList.idxArr (i := 1) tyOk rfl rfl rfl rfl rfl rfl rfl (by first | rfl | omega) oM ?_; refine AList.idxArr tyOk rfl rfl rfl rfl rfl rfl rfl rfl oM ?_; refine AList.loadA tyOk rfl rfl rfl rfl rfl rfl rfl oM oM ?_; refine AList.alloc tyOk rfl rfl rfl rfl rfl ?_; refine AList.alloc tyOk rfl rfl rfl rfl rfl ?_; refine AList.alloc tyOk rfl rfl rfl rfl rfl ?_; refine AList.alloc tyOk rfl rfl rfl rfl rfl ?_; refine AList.store tyOk rfl rfl rfl rfl rfl rfl rfl rfl oM oM ?_; refine AList.store tyOk rfl rfl rfl rfl rfl rfl rfl rfl oM oM ?_; refine AList.store tyOk rfl rfl rfl rfl rfl rfl rfl rfl oM oM ?_; refine AList.store tyOk rfl rfl rfl rfl rfl rfl rfl rfl oM oM ?_; refine AList.nil ⟨by kernel_rfl, ?_⟩))
              refine ⟨rfl, Wk.mk [(14, some 14), (15, some 15), (18, some 18), (19, some 19), (20, some 20), (21, some 21)] rfl rfl rfl ?_ ?_⟩
              · repeat (first | exact trivial | refine ⟨⟨_, rfl, by first | exact LeA.c (LeC.refl _ rfl) | exact LeA.c (LeC.ow _ _ rfl) | exact LeA.c (LeC.pt _ _ _ _ _ rfl) | exact LeA.c (LeC.nil _ rfl) | exact LeA.c (LeC.nils _ _) | (refine LeA.int ?_; omega) | (refine LeA.int ?_; dsimp only; omega) | exact LeA.c (LeC.fz rfl rfl (by first | rfl | omega) (fun i _ j _ => ⟨rfl, by first | rfl | exact rowN_imm (fun _ => rfl) _ i j | exact rowF_imm (fun _ => rfl) _ i j⟩))⟩, ?_⟩)
              · repeat (first | exact trivial | refine ⟨by first | exact HeapOk.same rfl rfl rfl rfl | exact HeapOk.lent rfl rfl rfl rfl | exact HeapOk.nil rfl rfl | exact HeapOk.row rfl rfl (by first | rfl | omega) (fun i _ j _ => ⟨rfl, by first | rfl | exact rowN_imm (fun _ => rfl) _ i j | exact rowF_imm (fun _ => rfl) _ i j⟩) | exact HeapOk.box rfl rfl (by repeat (first | exact trivial | refine ⟨by first | exact LeC.refl _ rfl | exact LeC.ow _ _ rfl | exact LeC.nil _ rfl | exact LeC.nils _ _ | exact LeC.fz rfl rfl (by first | rfl | omega) (fun i _ j _ => ⟨rfl, by first | rfl | exact rowN_imm (fun _ => rfl) _ i j | exact rowF_imm (fun _ => rfl) _ i j⟩) | exact LeC.int (by omega), ?_⟩)) rfl, ?_⟩)
            · repeat (first
                | (refine AWp.draw (id := 11) mixed ?_; refine AList.move rfl rfl rfl ?_; refine AList.idxArr (i := 1) tyOk rfl rfl rfl rfl rfl rfl rfl (by first | rfl | omega) oM ?_; refine AList.idxArr tyOk rfl rfl rfl rfl rfl rfl rfl rfl oM ?_; refine AList.loadA tyOk rfl rfl rfl rfl rfl rfl rfl oM oM ?_; refine AList.move rfl rfl rfl ?_; refine AList.idxArr (i := 1) tyOk rfl rfl rfl rfl rfl rfl rfl (by first | rfl | omega) oM ?_; refine AList.idxArr tyOk rfl rfl rfl rfl rfl rfl rfl rfl oM ?_; refine AList.loadA tyOk rfl rfl rfl rfl rfl rfl rfl oM oM ?_; refine AList.move rfl rfl rfl ?_; refine AList.idxArr (i := 2) tyOk rfl rfl rfl rfl rfl rfl rfl (by first | rfl | omega) oM ?_; refine AList.idxArr tyOk rfl rfl rfl rfl rfl rfl rfl rfl oM ?_; refine AList.loadA tyOk rfl rfl rfl rfl rfl rfl rfl oM oM ?_; refine AList.move rfl rfl rfl ?_; refine AList.idxArr (i := 2) tyOk rfl rfl rfl rfl rfl rfl rfl (by first | rfl | omega) oM ?_; refine AList.idxArr tyOk rfl rfl rfl rfl rfl rfl rfl rfl oM ?_; refine AList.loadA tyOk rfl rfl rfl rfl rfl rfl rfl oM oM ?_; refine AList.alloc tyOk rfl rfl rfl rfl rfl ?_; refine AList.alloc tyOk rfl rfl rfl rfl rfl ?_; refine AList.alloc tyOk rfl rfl rfl rfl rfl ?_; refine AList.alloc tyOk rfl rfl rfl rfl rfl ?_; refine AList.store tyOk rfl rfl rfl rfl rfl rfl rfl rfl oM oM ?_; refine AList.store tyOk rfl rfl rfl rfl rfl rfl rfl rfl oM oM ?_; refine AList.store tyOk rfl rfl rfl rfl rfl rfl rfl rfl oM oM ?_; refine AList.store tyOk rfl rfl rfl rfl rfl rfl rfl rfl oM oM ?_; refine AList.nil ⟨by kernel_rfl, ?_⟩))
              refine ⟨rfl, Wk.mk [(14, some 14), (15, some 15), (18, some 18), (19, some 19), (20, some 20), (21, some 21)] rfl rfl rfl ?_ ?_⟩
              · repeat (first | exact trivial | refine ⟨⟨_, rfl, by first | exact LeA.c (LeC.refl _ rfl) | exact LeA.c (LeC.ow _ _ rfl) | exact LeA.c (LeC.pt _ _ _ _ _ rfl) | exact LeA.c (LeC.nil _ rfl) | exact LeA.c (LeC.nils _ _) | (refine LeA.int ?_; omega) | (refine LeA.int ?_; dsimp only; omega) | exact LeA.c (LeC.fz rfl rfl (by first | rfl | omega) (fun i _ j _ => ⟨rfl, by first | rfl | exact rowN_imm (fun _ => rfl) _ i j | exact rowF_imm (fun _ => rfl) _ i j⟩))⟩, ?_⟩)
              · repeat (first | exact trivial | refine ⟨by first | exact HeapOk.same rfl rfl rfl rfl | exact HeapOk.lent rfl rfl rfl rfl | exact HeapOk.nil rfl rfl | exact HeapOk.row rfl rfl (by first | rfl | omega) (fun i _ j _ => ⟨rfl, by first | rfl | exact rowN_imm (fun _ => rfl) _ i j | exact rowF_imm (fun _ => rfl) _ i j⟩) | exact HeapOk.box rfl rfl (by repeat (first | exact trivial | refine ⟨by first | exact LeC.refl _ rfl | exact LeC.ow _ _ rfl | exact LeC.nil _ rfl | exact LeC.nils _ _ | exact LeC.fz rfl rfl (by first | rfl | omega) (fun i _ j _ => ⟨rfl, by first | rfl | exact rowN_imm (fun _ => rfl) _ i j | exact rowF_imm (fun _ => rfl) _ i j⟩) | exact LeC.int (by omega), ?_⟩)) rfl, ?_⟩)
            · repeat (first
                | (refine AWp.draw (id := 11) mixed ?_; refine AList.move rfl rfl rfl ?_; refine AList.idxArr (i := 2) tyOk rfl rfl rfl rfl rfl rfl rfl (by first | rfl | omega) oM ?_; refine AList.idxArr tyOk rfl rfl rfl rfl rfl rfl rfl rfl oM ?_; refine AList.loadA tyOk rfl rfl rfl rfl rfl rfl rfl oM oM ?_; refine AList.move rfl rfl rfl ?_; refine AList.idxArr (i := 2) tyOk rfl rfl rfl rfl rfl rfl rfl (by first | rfl | omega) oM ?_; refine AList.idxArr tyOk rfl rfl rfl rfl rfl rfl rfl rfl oM ?_; refine AList.loadA tyOk rfl rfl rfl rfl rfl rfl rfl oM oM ?_; refine AList.move rfl rfl rfl ?_; refine AList.idxArr (i := 0) tyOk rfl rfl rfl rfl rfl rfl rfl (by first | rfl | omega) oM ?_; refine AList.idxArr tyOk rfl rfl rfl rfl rfl rfl rfl rfl oM ?_; refine AList.loadA tyOk rfl rfl rfl rfl rfl rfl rfl oM oM ?_; refine AList.move rfl rfl rfl ?_; refine AList.idxArr (i := 0) tyOk rfl rfl rfl rfl rfl rfl rfl (by first | rfl | omega) oM ?_; refine AList.idxArr tyOk rfl rfl rfl rfl rfl rfl rfl rfl oM ?_; refine AList.loadA tyOk rfl rfl rfl rfl rfl rfl rfl oM oM ?_; refine AList.alloc tyOk rfl rfl rfl rfl rfl ?_; refine AList.alloc tyOk rfl rfl rfl rfl rfl ?_; refine AList.alloc tyOk rfl rfl rfl rfl rfl ?_; refine AList.alloc tyOk rfl rfl rfl rfl rfl ?_; refine AList.store tyOk rfl rfl rfl rfl rfl rfl rfl rfl oM oM ?_; refine AList.store tyOk rfl rfl rfl rfl rfl rfl rfl rfl oM oM ?_; refine AList.store tyOk rfl rfl rfl rfl rfl rfl rfl rfl oM oM ?_; refine AList.store tyOk rfl rfl rfl rfl rfl rfl rfl rfl oM oM ?_; refine AList.nil ⟨by kernel_rfl, ?_⟩))
              refine ⟨rfl, Wk.mk [(14, some 14), (15, some 15), (18, some 18), (19, some 19), (20, some 20), (21, some 21)] rfl rfl rfl ?_ ?_⟩
              · repeat (first | exact trivial | refine ⟨⟨_, rfl, by first | exact LeA.c (LeC.refl _ rfl) | exact LeA.c (LeC.ow _ _ rfl) | exact LeA.c (LeC.pt _ _ _ _ _ rfl) | exact LeA.c (LeC.nil _ rfl) | exact LeA.c (LeC.nils _ _) | (refine LeA.int ?_; omega) | (refine LeA.int ?_; dsimp only; omega) | exact LeA.c (LeC.fz rfl rfl (by first | rfl | omega) (fun i _ j _ => ⟨rfl, by first | rfl | exact rowN_imm (fun _ => rfl) _ i j | exact rowF_imm (fun _ => rfl) _ i j⟩))⟩, ?_⟩)
              · repeat (first | exact trivial | refine ⟨by first | exact HeapOk.same rfl rfl rfl rfl | exact HeapOk.lent rfl rfl rfl rfl | exact HeapOk.nil rfl rfl | exact HeapOk.row rfl rfl (by first | rfl | omega) (fun i _ j _ => ⟨rfl, by first | rfl | exact rowN_imm (fun _ => rfl) _ i j | exact rowF_imm (fun _ => rfl) _ i j⟩) | exact HeapOk.box rfl rfl (by repeat (first | exact trivial | refine ⟨by first | exact LeC.refl _ rfl | exact LeC.ow _ _ rfl | exact LeC.nil _ rfl | exact LeC.nils _ _ | exact LeC.fz rfl rfl (by first | rfl | omega) (fun i _ j _ => ⟨rfl, by first | rfl | exact rowN_imm (fun _ => rfl) _ i j | exact rowF_imm (fun _ => rfl) _ i j⟩) | exact LeC.int (by omega), ?_⟩)) rfl, ?_⟩)
            · repeat (first
                | (refine AWp.draw (id := 11) mixed ?_; refine AList.move rfl rfl rfl ?_; refine AList.idxArr (i := 2) tyOk rfl rfl rfl rfl rfl rfl rfl (by first | rfl | omega) oM ?_; refine AList.idxArr tyOk rfl rfl rfl rfl rfl rfl rfl rfl oM ?_; refine AList.loadA tyOk rfl rfl rfl rfl rfl rfl rfl oM oM ?_; refine AList.move rfl rfl rfl ?_; refine AList.idxArr (i := 2) tyOk rfl rfl rfl rfl rfl rfl rfl (by first | rfl | omega) oM ?_; refine AList.idxArr tyOk rfl rfl rfl rfl rfl rfl rfl rfl oM ?_; refine AList.loadA tyOk rfl rfl rfl rfl rfl rfl rfl oM oM ?_; refine AList.move rfl rfl rfl ?_; refine AList.idxArr (i := 1) tyOk rfl rfl rfl rfl rfl rfl rfl (by first | rfl | omega) oM ?_; refine AList.idxArr tyOk rfl rfl rfl rfl rfl rfl rfl rfl oM ?_; refine AList.loadA tyOk rfl rfl rfl rfl rfl rfl rfl oM oM ?_; refine AList.move rfl rfl rfl ?_; refine AList.idxArr (i := 1) tyOk rfl rfl rfl rfl rfl rfl rfl (by first | rfl | omega) oM ?_; refine AList.idxArr tyOk rfl rfl rfl rfl rfl rfl rfl rfl oM ?_; refine AList.loadA tyOk rfl rfl rfl rfl rfl rfl rfl oM oM ?_; refine AList.alloc tyOk rfl rfl rfl rfl rfl ?_; refine AList.alloc tyOk rfl rfl rfl rfl rfl ?_; refine AList.alloc tyOk rfl rfl rfl rfl rfl ?_; refine AList.alloc tyOk rfl rfl rfl rfl rfl ?_; refine AList.store tyOk rfl rfl rfl rfl rfl rfl rfl rfl oM oM ?_; refine AList.store tyOk rfl rfl rfl rfl rfl rfl rfl rfl oM oM ?_; refine AList.store tyOk rfl rfl rfl rfl rfl rfl rfl rfl oM oM ?_; refine AList.store tyOk rfl rfl rfl rfl rfl rfl rfl rfl oM oM ?_; refine AList.nil ⟨by kernel_rfl, ?_⟩))
              refine ⟨rfl, Wk.mk [(14, some 14), (15, some 15), (18, some 18), (19, some 19), (20, some 20), (21, some 21)] rfl rfl rfl ?_ ?_⟩
              · repeat (first | exact trivial | refine ⟨⟨_, rfl, by first | exact LeA.c (LeC.refl _ rfl) | exact LeA.c (LeC.ow _ _ rfl) | exact LeA.c (LeC.pt _ _ _ _ _ rfl) | exact LeA.c (LeC.nil _ rfl) | exact LeA.c (LeC.nils _ _) | (refine LeA.int ?_; omega) | (refine LeA.int ?_; dsimp only; omega) | exact LeA.c (LeC.fz rfl rfl (by first | rfl | omega) (fun i _ j _ => ⟨rfl, by first | rfl | exact rowN_imm (fun _ => rfl) _ i j | exact rowF_imm (fun _ => rfl) _ i j⟩))⟩, ?_⟩)
              · repeat (first | exact trivial | refine ⟨by first | exact HeapOk.same rfl rfl rfl rfl | exact HeapOk.lent rfl rfl rfl rfl | exact HeapOk.nil rfl rfl | exact HeapOk.row rfl rfl (by first | rfl | omega) (fun i _ j _ => ⟨rfl, by first | rfl | exact rowN_imm (fun _ => rfl) _ i j | exact rowF_imm (fun _ => rfl) _ i j⟩) | exact HeapOk.box rfl rfl (by repeat (first | exact trivial | refine ⟨by first | exact LeC.refl _ rfl | exact LeC.ow _ _ rfl | exact LeC.nil _ rfl | exact LeC.nils _ _ | exact LeC.fz rfl rfl (by first | rfl | omega) (fun i _ j _ => ⟨rfl, by first | rfl | exact rowN_imm (fun _ => rfl) _ i j | exact rowF_imm (fun _ => rfl) _ i j⟩) | exact LeC.int (by omega), ?_⟩)) rfl, ?_⟩)
            · repeat (first
                | (refine AWp.draw (id := 11) mixed ?_; refine AList.move rfl rfl rfl ?_; refine AList.idxArr (i := 2) tyOk rfl rfl rfl rfl rfl rfl rfl (by first | rfl | omega) oM ?_; refine AList.idxArr tyOk rfl rfl rfl rfl rfl rfl rfl rfl oM ?_; refine AList.loadA tyOk rfl rfl rfl rfl rfl rfl rfl oM oM ?_; refine AList.move rfl rfl rfl ?_; refine AList.idxArr (i := 2) tyOk rfl rfl rfl rfl rfl rfl rfl (by first | rfl | omega) oM ?_; refine AList.idxArr tyOk rfl rfl rfl rfl rfl rfl rfl rfl oM ?_; refine AList.loadA tyOk rfl rfl rfl rfl rfl rfl rfl oM oM ?_; refine AList.move rfl rfl rfl ?_; refine AList.idxArr (i := 2) tyOk rfl rfl rfl rfl rfl rfl rfl (by first | rfl | omega) oM ?_; refine AList.idxArr tyOk rfl rfl rfl rfl rfl rfl rfl rfl oM ?_; refine AList.loadA tyOk rfl rfl rfl rfl rfl rfl rfl oM oM ?_; refine AList.move rfl rfl rfl ?_; refine AList.idxArr (i := 2) tyOk rfl rfl rfl rfl rfl rfl rfl (by first | rfl | omega) oM ?_; refine AList.idxArr tyOk rfl rfl rfl rfl rfl rfl rfl rfl oM ?_; refine AList.loadA tyOk rfl rfl rfl rfl rfl rfl rfl oM oM ?_; refine AList.alloc tyOk rfl rfl rfl rfl rfl ?_; refine AList.alloc tyOk rfl rfl rfl rfl rfl ?_; refine AList.alloc tyOk rfl rfl rfl rfl rfl ?_; refine AList.alloc tyOk rfl rfl rfl rfl rfl ?_; refine AList.store tyOk rfl rfl rfl rfl rfl rfl rfl rfl oM oM ?_; refine AList.store tyOk rfl rfl rfl rfl rfl rfl rfl rfl oM oM ?_; refine AList.store tyOk rfl rfl rfl rfl rfl rfl rfl rfl oM oM ?_; refine AList.store tyOk rfl rfl rfl rfl rfl rfl rfl rfl oM oM ?_; refine AList.nil ⟨by kernel_rfl, ?_⟩))
              refine ⟨rfl, Wk.mk [(14, some 14), (15, some 15), (18, some 18), (19, some 19), (20, some 20), (21, some 21)] rfl rfl rfl ?_ ?_⟩
              · repeat (first | exact trivial | refine ⟨⟨_, rfl, by first | exact LeA.c (LeC.refl _ rfl) | exact LeA.c (LeC.ow _ _ rfl) | exact LeA.c (LeC.pt _ _ _ _ _ rfl) | exact LeA.c (LeC.nil _ rfl) | exact LeA.c (LeC.nils _ _) | (refine LeA.int ?_; omega) | (refine LeA.int ?_; dsimp only; omega) | exact LeA.c (LeC.fz rfl rfl (by first | rfl | omega) (fun i _ j _ => ⟨rfl, by first | rfl | exact rowN_imm (fun _ => rfl) _ i j | exact rowF_imm (fun _ => rfl) _ i j⟩))⟩, ?_⟩)
              · repeat (first | exact trivial | refine ⟨by first | exact HeapOk.same rfl rfl rfl rfl | exact HeapOk.lent rfl rfl rfl rfl | exact HeapOk.nil rfl rfl | exact HeapOk.row rfl rfl (by first | rfl | omega) (fun i _ j _ => ⟨rfl, by first | rfl | exact rowN_imm (fun _ => rfl) _ i j | exact rowF_imm (fun _ => rfl) _ i j⟩) | exact HeapOk.box rfl rfl (by repeat (first | exact trivial | refine ⟨by first | exact LeC.refl _ rfl | exact LeC.ow _ _ rfl | exact LeC.nil _ rfl | exact LeC.nils _ _ | exact LeC.fz rfl rfl (by first | rfl | omega) (fun i _ j _ => ⟨rfl, by first | rfl | exact rowN_imm (fun _ => rfl) _ i j | exact rowF_imm (fun _ => rfl) _ i j⟩) | exact LeC.int (by omega), ?_⟩)) rfl, ?_⟩)
            · repeat (first
                | (refine AWp.draw (id := 11) mixed ?_; refine AList.move rfl rfl rfl ?_; refine AList.idxArr (i := 3) tyOk rfl rfl rfl rfl rfl rfl rfl (by first | rfl | omega) oM ?_; refine AList.idxArr tyOk rfl rfl rfl rfl rfl rfl rfl rfl oM ?_; refine AList.loadA tyOk rfl rfl rfl rfl rfl rfl rfl oM oM ?_; refine AList.move rfl rfl rfl ?_; refine AList.idxArr (i := 3) tyOk rfl rfl rfl rfl rfl rfl rfl (by first | rfl | omega) oM ?_; refine AList.idxArr tyOk rfl rfl rfl rfl rfl rfl rfl rfl oM ?_; refine AList.loadA tyOk rfl rfl rfl rfl rfl rfl rfl oM oM ?_; refine AList.move rfl rfl rfl ?_; refine AList.idxArr (i := 0) tyOk rfl rfl rfl rfl rfl rfl rfl (by first | rfl | omega) oM ?_; refine AList.idxArr tyOk rfl rfl rfl rfl rfl rfl rfl rfl oM ?_; refine AList.loadA tyOk rfl rfl rfl rfl rfl rfl rfl oM oM ?_; refine AList.move rfl rfl rfl ?_; refine AList.idxArr (i := 0) tyOk rfl rfl rfl rfl rfl rfl rfl (by first | rfl | omega) oM ?_; refine AList.idxArr tyOk rfl rfl rfl rfl rfl rfl rfl rfl oM ?_; refine AList.loadA tyOk rfl rfl rfl rfl rfl rfl rfl oM oM ?_; refine AList.alloc tyOk rfl rfl rfl rfl rfl ?_; refine AList.alloc tyOk rfl rfl rfl rfl rfl ?_; refine AList.alloc tyOk rfl rfl rfl rfl rfl ?_; refine AList.alloc tyOk rfl rfl rfl rfl rfl ?_; refine AList.store tyOk rfl rfl rfl rfl rfl rfl rfl rfl oM oM ?_; refine AList.store tyOk rfl rfl rfl rfl rfl rfl rfl rfl oM oM ?_; refine AList.store tyOk rfl rfl rfl rfl rfl rfl rfl rfl oM oM ?_; refine AList.store tyOk rfl rfl rfl rfl rfl rfl rfl rfl oM oM ?_; refine AList.nil ⟨by kernel_rfl, ?_⟩))
              refine ⟨rfl, Wk.mk [(14, some 14), (15, some 15), (18, some 18), (19, some 19), (20, some 20), (21, some 21)] rfl rfl rfl ?_ ?_⟩
              · repeat (first | exact trivial | refine ⟨⟨_, rfl, by first | exact LeA.c (LeC.refl _ rfl) | exact LeA.c (LeC.ow _ _ rfl) | exact LeA.c (LeC.pt _ _ _ _ _ rfl) | exact LeA.c (LeC.nil _ rfl) | exact LeA.c (LeC.nils _ _) | (refine LeA.int ?_; omega) | (refine LeA.int ?_; dsimp only; omega) | exact LeA.c (LeC.fz rfl rfl (by first | rfl | omega) (fun i _ j _ => ⟨rfl, by first | rfl | exact rowN_imm (fun _ => rfl) _ i j | exact rowF_imm (fun _ => rfl) _ i j⟩))⟩, ?_⟩)
              · repeat (first | exact trivial | refine ⟨by first | exact HeapOk.same rfl rfl rfl rfl | exact HeapOk.lent rfl rfl rfl rfl | exact HeapOk.nil rfl rfl | exact HeapOk.row rfl rfl (by first | rfl | omega) (fun i _ j _ => ⟨rfl, by first | rfl | exact rowN_imm (fun _ => rfl) _ i j | exact rowF_imm (fun _ => rfl) _ i j⟩) | exact HeapOk.box rfl rfl (by repeat (first | exact trivial | refine ⟨by first | exact LeC.refl _ rfl | exact LeC.ow _ _ rfl | exact LeC.nil _ rfl | exact LeC.nils _ _ | exact LeC.fz rfl rfl (by first | rfl | omega) (fun i _ j _ => ⟨rfl, by first | rfl | exact rowN_imm (fun _ => rfl) _ i j | exact rowF_imm (fun _ => rfl) _ i j⟩) | exact LeC.int (by omega), ?_⟩)) rfl, ?_⟩)
            · repeat (first
                | (refine AWp.draw (id := 11) mixed ?_; refine AList.move rfl rfl rfl ?_; refine AList.idxArr (i := 3) tyOk rfl rfl rfl rfl rfl rfl rfl (by first | rfl | omega) oM ?_; refine AList.idxArr tyOk rfl rfl rfl rfl rfl rfl rfl rfl oM ?_; refine AList.loadA tyOk rfl rfl rfl rfl rfl rfl rfl oM oM ?_; refine AList.move rfl rfl rfl ?_; refine AList.idxArr (i := 3) tyOk rfl rfl rfl rfl rfl rfl rfl (by first | rfl | omega) oM ?_; refine AList.idxArr tyOk rfl rfl rfl rfl rfl rfl rfl rfl oM ?_; refine AList.loadA tyOk rfl rfl rfl rfl rfl rfl rfl oM oM ?_; refine AList.move rfl rfl rfl ?_; refine AList.idxArr (i := 1) tyOk rfl rfl rfl rfl rfl rfl rfl (by first | rfl | omega) oM ?_; refine AList.idxArr tyOk rfl rfl rfl rfl rfl rfl rfl rfl oM ?_; refine AList.loadA tyOk rfl rfl rfl rfl rfl rfl rfl oM oM ?_; refine AList.move rfl rfl rfl ?_; refine AList.idxArr (i := 1) tyOk rfl rfl rfl rfl rfl rfl rfl (by first | rfl | omega) oM ?_; refine AList.idxArr tyOk rfl rfl rfl rfl rfl rfl rfl rfl oM ?_; refine AList.loadA tyOk rfl rfl rfl rfl rfl rfl rfl oM oM ?_; refine AList.alloc tyOk rfl rfl rfl rfl rfl ?_; refine AList.alloc tyOk rfl rfl rfl rfl rfl ?_; refine AList.alloc tyOk rfl rfl rfl rfl rfl ?_; refine AList.alloc tyOk rfl rfl rfl rfl rfl ?_; refine AList.store tyOk rfl rfl rfl rfl rfl rfl rfl rfl oM oM ?_; refine AList.store tyOk rfl rfl rfl rfl rfl rfl rfl rfl oM oM ?_; refine AList.store tyOk rfl rfl rfl rfl rfl rfl rfl rfl oM oM ?_; refine AList.store tyOk rfl rfl rfl rfl rfl rfl rfl rfl oM oM ?_; refine AList.nil ⟨by kernel_rfl, ?_⟩))
              refine ⟨rfl, Wk.mk [(14, some 14), (15, some 15), (18, some 18), (19, some 19), (20, some 20), (21, some 21)] rfl rfl rfl ?_ ?_⟩
              · repeat (first | exact trivial | refine ⟨⟨_, rfl, by first | exact LeA.c (LeC.refl _ rfl) | exact LeA.c (LeC.ow _ _ rfl) | exact LeA.c (LeC.pt _ _ _ _ _ rfl) | exact LeA.c (LeC.nil _ rfl) | exact LeA.c (LeC.nils _ _) | (refine LeA.int ?_; omega) | (refine LeA.int ?_; dsimp only; omega) | exact LeA.c (LeC.fz rfl rfl (by first | rfl | omega) (fun i _ j _ => ⟨rfl, by first | rfl | exact rowN_imm (fun _ => rfl) _ i j | exact rowF_imm (fun _ => rfl) _ i j⟩))⟩, ?_⟩)
              · repeat (first | exact trivial | refine ⟨by first | exact HeapOk.same rfl rfl rfl rfl | exact HeapOk.lent rfl rfl rfl rfl | exact HeapOk.nil rfl rfl | exact HeapOk.row rfl rfl (by first | rfl | omega) (fun i _ j _ => ⟨rfl, by first | rfl | exact rowN_imm (fun _ => rfl) _ i j | exact rowF_imm (fun _ => rfl) _ i j⟩) | exact HeapOk.box rfl rfl (by repeat (first | exact trivial | refine ⟨by first | exact LeC.refl _ rfl | exact LeC.ow _ _ rfl | exact LeC.nil _ rfl | exact LeC.nils _ _ | exact LeC.fz rfl rfl (by first | rfl | omega) (fun i _ j _ => ⟨rfl, by first | rfl | exact rowN_imm (fun _ => rfl) _ i j | exact rowF_imm (fun _ => rfl) _ i j⟩) | exact LeC.int (by omega), ?_⟩)) rfl, ?_⟩)
            · repeat (first
                | (refine AWp.draw (id := 11) mixed ?_; refine AList.move rfl rfl rfl ?_; refine AList.idxArr (i := 3) tyOk rfl rfl rfl rfl rfl rfl rfl (by first | rfl | omega) oM ?_; refine AList.idxArr tyOk rfl rfl rfl rfl rfl rfl rfl rfl oM ?_; refine AList.loadA tyOk rfl rfl rfl rfl rfl rfl rfl oM oM ?_; refine AList.move rfl rfl rfl ?_; refine AList.idxArr (i := 3) tyOk rfl rfl rfl rfl rfl rfl rfl (by first | rfl | omega) oM ?_; refine AList.idxArr tyOk rfl rfl rfl rfl rfl rfl rfl rfl oM ?_; refine AList.loadA tyOk rfl rfl rfl rfl rfl rfl rfl oM oM ?_; refine AList.move rfl rfl rfl ?_; refine AList.idxArr (i := 2) tyOk rfl rfl rfl rfl rfl rfl rfl (by first | rfl | omega) oM ?_; refine AList.idxArr tyOk rfl rfl rfl rfl rfl rfl rfl rfl oM ?_; refine AList.loadA tyOk rfl rfl rfl rfl rfl rfl rfl oM oM ?_; refine AList.move rfl rfl rfl ?_; refine AList.idxArr (i := 2) tyOk rfl rfl rfl rfl rfl rfl rfl (by first | rfl | omega) oM ?_; refine AList.idxArr tyOk rfl rfl rfl rfl rfl rfl rfl rfl oM ?_; refine AList.loadA tyOk rfl rfl rfl rfl rfl rfl rfl oM oM ?_; refine AList.alloc tyOk rfl rfl rfl rfl rfl ?_; refine AList.alloc tyOk rfl rfl rfl rfl rfl ?_; refine AList.alloc tyOk rfl rfl rfl rfl rfl ?_; refine AList.alloc tyOk rfl rfl rfl rfl rfl ?_; refine AList.store tyOk rfl rfl rfl rfl rfl rfl rfl rfl oM oM ?_; refine AList.store tyOk rfl rfl rfl rfl rfl rfl rfl rfl oM oM ?_; refine AList.store tyOk rfl rfl rfl rfl rfl rfl rfl rfl oM oM ?_; refine AList.store tyOk rfl rfl rfl rfl rfl rfl rfl rfl oM oM ?_; refine AList.nil ⟨by kernel_rfl, ?_⟩))
              refine ⟨rfl, Wk.mk [(14, some 14), (15, some 15), (18, some 18), (19, some 19), (20, some 20), (21, some 21)] rfl rfl rfl ?_ ?_⟩
              · repeat (first | exact trivial | refine ⟨⟨_, rfl, by first | exact LeA.c (LeC.refl _ rfl) | exact LeA.c (LeC.ow _ _ rfl) | exact LeA.c (LeC.pt _ _ _ _ _ rfl) | exact LeA.c (LeC.nil _ rfl) | exact LeA.c (LeC.nils _ _) | (refine LeA.int ?_; omega) | (refine LeA.int ?_; dsimp only; omega) | exact LeA.c (LeC.fz rfl rfl (by first | rfl | omega) (fun i _ j _ => ⟨rfl, by first | rfl | exact rowN_imm (fun _ => rfl) _ i j | exact rowF_imm (fun _ => rfl) _ i j⟩))⟩, ?_⟩)
              · repeat (first | exact trivial | refine ⟨by first | exact HeapOk.same rfl rfl rfl rfl | exact HeapOk.lent rfl rfl rfl rfl | exact HeapOk.nil rfl rfl | exact HeapOk.row rfl rfl (by first | rfl | omega) (fun i _ j _ => ⟨rfl, by first | rfl | exact rowN_imm (fun _ => rfl) _ i j | exact rowF_imm (fun _ => rfl) _ i j⟩) | exact HeapOk.box rfl rfl (by repeat (first | exact trivial | refine ⟨by first | exact LeC.refl _ rfl | exact LeC.ow _ _ rfl | exact LeC.nil _ rfl | exact LeC.nils _ _ | exact LeC.fz rfl rfl (by first | rfl | omega) (fun i _ j _ => ⟨rfl, by first | rfl | exact rowN_imm (fun _ => rfl) _ i j | exact rowF_imm (fun _ => rfl) _ i j⟩) | exact LeC.int (by omega), ?_⟩)) rfl, ?_⟩)
          · have hC := Confused_A (P k) (R k) (V i) (U i)
            have hD := rConfused_A (P k) (R k) (V i) (U i)
            have hS := Slack_A (P k) (R k) (V i) (U i)
            have hT := rSlack_A (P k) (R k) (V i) (U i)
            obtain ⟨⟨cl, cb⟩, hcv⟩ : ∃ v, cnfV (P k) (R k) (V i) (U i) = v := ⟨_, rfl⟩
            obtain ⟨⟨sl, sb⟩, hsv⟩ : ∃ v, slkV (P k) (R k) (V i) (U i) = v := ⟨_, rfl⟩
            rw [hcv] at hC hD
            rw [hsv] at hS hT
            clear hcv hsv hP hR
            generalize P k = p at *
            generalize R k = r at *
            generalize V i = v at *
            generalize U i = u at *
            cases cb <;> cases sb
            all_goals
              repeat (first
                | refine AWp.seq ?_
                | refine thenA_n ?_
                | refine AWp.skip ?_
                | refine inBlk_n ?_
                | refine AWp.condF rfl (by first | rfl | assumption | exact cmF) ?_
                | (refine AWp.region (id := 10) ?_; refine AList.move rfl rfl rfl ?_; refine AList.add rfl rfl rfl rfl (by omega) (by omega) ?_; refine AList.assign rfl rfl rfl ?_; refine AList.nil ?_)
                | (refine AWp.region (id := 12) ?_; refine AList.loadA tyOk rfl rfl rfl rfl rfl rfl rfl oM oM ?_; refine AList.loadA tyOk rfl rfl rfl rfl rfl rfl rfl oM oM ?_; refine AList.loadA tyOk rfl rfl rfl rfl rfl rfl rfl oM oM ?_; refine AList.loadA tyOk rfl rfl rfl rfl rfl rfl rfl oM oM ?_; refine AList.call rfl rfl rfl rfl Try.func13 rfl (by kernel_rfl) (hC) ?_; refine AList.move rfl rfl rfl ?_; refine AList.extract rfl rfl rfl rfl ?_; refine AList.extract rfl rfl rfl rfl ?_; refine AList.alloc tyOk rfl rfl rfl rfl rfl ?_; refine AList.store tyOk rfl rfl rfl rfl rfl rfl rfl rfl oM oM ?_; refine AList.assign rfl rfl rfl ?_; refine AList.nil ?_)
                | (refine AWp.region (id := 13) ?_; refine AList.loadA tyOk rfl rfl rfl rfl rfl rfl rfl oM oM ?_; refine AList.loadA tyOk rfl rfl rfl rfl rfl rfl rfl oM oM ?_; refine AList.loadA tyOk rfl rfl rfl rfl rfl rfl rfl oM oM ?_; refine AList.loadA tyOk rfl rfl rfl rfl rfl rfl rfl oM oM ?_; refine AList.call rfl rfl rfl rfl Try.func14 rfl (by kernel_rfl) (hD) ?_; refine AList.move rfl rfl rfl ?_; refine AList.extract rfl rfl rfl rfl ?_; refine AList.extract rfl rfl rfl rfl ?_; refine AList.alloc tyOk rfl rfl rfl rfl rfl ?_; refine AList.store tyOk rfl rfl rfl rfl rfl rfl rfl rfl oM oM ?_; refine AList.assign rfl rfl rfl ?_; refine AList.nil ?_)
                | (refine AWp.region (id := 14) ?_; refine AList.loadA tyOk rfl rfl rfl rfl rfl rfl rfl oM oM ?_; refine AList.loadA tyOk rfl rfl rfl rfl rfl rfl rfl oM oM ?_; refine AList.loadA tyOk rfl rfl rfl rfl rfl rfl rfl oM oM ?_; refine AList.loadA tyOk rfl rfl rfl rfl rfl rfl rfl oM oM ?_; refine AList.call rfl rfl rfl rfl Try.func15 rfl (by kernel_rfl) (hS) ?_; refine AList.move rfl rfl rfl ?_; refine AList.extract rfl rfl rfl rfl ?_; refine AList.extract rfl rfl rfl rfl ?_; refine AList.assign rfl rfl rfl ?_; refine AList.assign rfl rfl rfl ?_; refine AList.nil ?_)
                | (refine AWp.region (id := 15) ?_; refine AList.loadA tyOk rfl rfl rfl rfl rfl rfl rfl oM oM ?_; refine AList.loadA tyOk rfl rfl rfl rfl rfl rfl rfl oM oM ?_; refine AList.loadA tyOk rfl rfl rfl rfl rfl rfl rfl oM oM ?_; refine AList.loadA tyOk rfl rfl rfl rfl rfl rfl rfl oM oM ?_; refine AList.call rfl rfl rfl rfl Try.func16 rfl (by kernel_rfl) (hT) ?_; refine AList.move rfl rfl rfl ?_; refine AList.extract rfl rfl rfl rfl ?_; refine AList.extract rfl rfl rfl rfl ?_; refine AList.assign rfl rfl rfl ?_; refine AList.assign rfl rfl rfl ?_; refine AList.nil ?_)
                | (refine AWp.region (id := 16) ?_; refine AList.loadA tyOk rfl rfl rfl rfl rfl rfl rfl oM oM ?_; refine AList.loadA tyOk rfl rfl rfl rfl rfl rfl rfl oM oM ?_; refine AList.binAg rfl rfl rfl rfl rfl rfl (by kernel_rfl) (cl_self cl) ?_; refine AList.move rfl rfl rfl ?_; refine AList.move rfl rfl rfl ?_; refine AList.move rfl rfl rfl ?_; refine AList.neB rfl rfl rfl rfl (by kernel_rfl) ?_; refine AList.pickF rfl rfl rfl rfl ?_; refine AList.move rfl rfl rfl ?_; refine AList.move rfl rfl rfl ?_; refine AList.move rfl rfl rfl ?_; refine AList.cmpF rfl rfl rfl rfl rfl (by simp only [cmpP, eq_self, decide_true, Bool.not_true]) ?_; refine AList.pickF rfl rfl rfl rfl ?_; refine AList.move rfl rfl rfl ?_; refine AList.move rfl rfl rfl ?_; refine AList.move rfl rfl rfl ?_; refine AList.neB rfl rfl rfl rfl (by kernel_rfl) ?_; refine AList.pickF rfl rfl rfl rfl ?_; refine AList.nil ?_))
              refine ⟨i + 1, hi3, Wk.mk [(14, some 14), (15, some 15)] rfl rfl rfl ?_ ?_, by omega⟩
              · repeat (first | exact trivial | refine ⟨⟨_, rfl, by first | exact LeA.c (LeC.refl _ rfl) | exact LeA.c (LeC.ow _ _ rfl) | exact LeA.c (LeC.pt _ _ _ _ _ rfl) | exact LeA.c (LeC.nil _ rfl) | exact LeA.c (LeC.nils _ _) | (refine LeA.int ?_; omega) | (refine LeA.int ?_; dsimp only; omega) | exact LeA.c (LeC.fz rfl rfl (by first | rfl | omega) (fun i _ j _ => ⟨rfl, by first | rfl | exact rowN_imm (fun _ => rfl) _ i j | exact rowF_imm (fun _ => rfl) _ i j⟩))⟩, ?_⟩)
              · exact ⟨boxSame rfl rfl hmi hml, boxSame rfl rfl hbi hbl, trivial⟩
        · repeat (first
            | refine AWp.seq ?_
            | refine thenA_n ?_
            | refine AWp.exit ?_
            | refine thenA_e ?_
            | refine inBlk_n ?_
            | refine inBlk_hit ?_
            | refine AWp.condF rfl (by first | rfl | assumption | exact cmF) ?_
            | (refine AWp.region (id := 7) ?_; refine AList.move rfl rfl rfl ?_; refine AList.add rfl rfl rfl rfl (by omega) (by omega) ?_; refine AList.assign rfl rfl rfl ?_; refine AList.nil ?_)
            | (refine AWp.region (id := 9) ?_; refine AList.move rfl rfl rfl ?_; refine AList.cmpF rfl rfl rfl rfl rfl cmF ?_; refine AList.nil ?_))
          refine ⟨k + 1, hk4, Wk.mk [(14, some 14), (15, some 15)] rfl rfl rfl ?_ ?_, by omega⟩
          · repeat (first | exact trivial | refine ⟨⟨_, rfl, by first | exact LeA.c (LeC.refl _ rfl) | exact LeA.c (LeC.ow _ _ rfl) | exact LeA.c (LeC.pt _ _ _ _ _ rfl) | exact LeA.c (LeC.nil _ rfl) | exact LeA.c (LeC.nils _ _) | (refine LeA.int ?_; omega) | (refine LeA.int ?_; dsimp only; omega) | exact LeA.c (LeC.fz rfl rfl (by first | rfl | omega) (fun i _ j _ => ⟨rfl, by first | rfl | exact rowN_imm (fun _ => rfl) _ i j | exact rowF_imm (fun _ => rfl) _ i j⟩))⟩, ?_⟩)
          · exact ⟨boxSame rfl rfl hmi hml, boxSame rfl rfl hbi hbl, trivial⟩
    · repeat (first
        | refine AWp.seq ?_
        | refine thenA_n ?_
        | refine AWp.block ?_
        | refine AWp.exit ?_
        | refine AWp.condF rfl (by first | rfl | assumption | exact cmF) ?_
        | (refine AWp.region (id := 6) ?_; refine AList.move rfl rfl rfl ?_; refine AList.cmpF rfl rfl rfl rfl rfl cmF ?_; refine AList.nil ?_)
        | (refine AWp.region (id := 18) ?_; refine AList.assign rfl rfl rfl ?_; refine AList.nil ?_))
      refine AWp.round (fun i : Nat => mkSt 188 [(9, .c (bC true)), (15, .c (.pt 15 24 0 0)), (30, .c (iC i))] [(15, ⟨false, 1, 24, 38, lF bu⟩)] [15])
        (fun i => i ≤ 3) (fun i => 3 - i) 0 (Nat.zero_le _) ?_ (fun i hi => ?_)
      · refine Wk.mk [(15, some 15)] rfl rfl rfl ?_ ?_
        · repeat (first | exact trivial | refine ⟨⟨_, rfl, by first | exact LeA.c (LeC.refl _ rfl) | exact LeA.c (LeC.ow _ _ rfl) | exact LeA.c (LeC.pt _ _ _ _ _ rfl) | exact LeA.c (LeC.nil _ rfl) | exact LeA.c (LeC.nils _ _) | (refine LeA.int ?_; omega) | (refine LeA.int ?_; dsimp only; omega) | exact LeA.c (LeC.fz rfl rfl (by first | rfl | omega) (fun i _ j _ => ⟨rfl, by first | rfl | exact rowN_imm (fun _ => rfl) _ i j | exact rowF_imm (fun _ => rfl) _ i j⟩))⟩, ?_⟩)
        · exact ⟨boxSame rfl rfl hbi hbl, trivial⟩
      · by_cases hi3 : i < 3
        · obtain ⟨L, hL⟩ : ∃ L, shL (shN (V i) (U i)) = L := ⟨_, rfl⟩
          have hLn : L.length ≤ 81 := by
            rw [← hL]
            obtain ⟨-, hm4⟩ := shN_eq (V i) (U i)
            rw [shL_len hm4]
            have := Nat.mul_le_mul (show 2 * shN (V i) (U i) + 1 ≤ 9 by omega) (show 2 * shN (V i) (U i) + 1 ≤ 9 by omega)
            omega
          repeat (first
            | refine AWp.seq ?_
            | refine thenA_n ?_
            | refine AWp.block ?_
            | refine AWp.skip ?_
            | refine AWp.condT rfl (by first | rfl | assumption | exact cmT) ?_
            | (refine AWp.region (id := 19) ?_; refine AList.move rfl rfl rfl ?_; refine AList.cmpT rfl rfl rfl rfl rfl cmT ?_; refine AList.nil ?_))
          refine AWp.cut (mkSt 188 [(9, .c (bC true)), (15, .c (.pt 15 24 0 0)), (30, .c (iC i)), (31, .c (.ls L.length 2 (rowF mvC mvZ L)))] [(15, ⟨false, 1, 24, 38, lF bu⟩)] [15]) ?_ (fun S2 hw2 => AWp.weak hw2 ?_)
          · have hSh := aShifts_A (V i) (U i)
            rw [hL] at hSh
            subst hV hU hbu
            obtain rfl | rfl | rfl : i = 0 ∨ i = 1 ∨ i = 2 := by omega
            · repeat (first
                | (refine AWp.draw (id := 21) mixed ?_; refine AList.move rfl rfl rfl ?_; refine AList.idxArr (i := 0) tyOk rfl rfl rfl rfl rfl rfl rfl (by first | rfl | omega) oM ?_; refine AList.idxArr tyOk rfl rfl rfl rfl rfl rfl rfl rfl oM ?_; refine AList.loadA tyOk rfl rfl rfl rfl rfl rfl rfl oM oM ?_; refine AList.move rfl rfl rfl ?_; refine AList.idxArr (i := 0) tyOk rfl rfl rfl rfl rfl rfl rfl (by first | rfl | omega) oM ?_; refine AList.idxArr tyOk rfl rfl rfl rfl rfl rfl rfl rfl oM ?_; refine AList.loadA tyOk rfl rfl rfl rfl rfl rfl rfl oM oM ?_; refine AList.call rfl rfl rfl rfl Try.func17 rfl (by kernel_rfl) (hSh) ?_; refine AList.assign rfl rfl rfl ?_; refine AList.nil ⟨by kernel_rfl, ?_⟩))
              refine ⟨rfl, Wk.mk [(15, some 15)] rfl rfl rfl ?_ ?_⟩
              · repeat (first | exact trivial | refine ⟨⟨_, rfl, by first | exact LeA.c (LeC.refl _ rfl) | exact LeA.c (LeC.ow _ _ rfl) | exact LeA.c (LeC.pt _ _ _ _ _ rfl) | exact LeA.c (LeC.nil _ rfl) | exact LeA.c (LeC.nils _ _) | (refine LeA.int ?_; omega) | (refine LeA.int ?_; dsimp only; omega) | exact LeA.c (LeC.fz rfl rfl (by first | rfl | omega) (fun i _ j _ => ⟨rfl, by first | rfl | exact rowN_imm (fun _ => rfl) _ i j | exact rowF_imm (fun _ => rfl) _ i j⟩))⟩, ?_⟩)
              · repeat (first | exact trivial | refine ⟨by first | exact HeapOk.same rfl rfl rfl rfl | exact HeapOk.lent rfl rfl rfl rfl | exact HeapOk.nil rfl rfl | exact HeapOk.row rfl rfl (by first | rfl | omega) (fun i _ j _ => ⟨rfl, by first | rfl | exact rowN_imm (fun _ => rfl) _ i j | exact rowF_imm (fun _ => rfl) _ i j⟩) | exact HeapOk.box rfl rfl (by repeat (first | exact trivial | refine ⟨by first | exact LeC.refl _ rfl | exact LeC.ow _ _ rfl | exact LeC.nil _ rfl | exact LeC.nils _ _ | exact LeC.fz rfl rfl (by first | rfl | omega) (fun i _ j _ => ⟨rfl, by first | rfl | exact rowN_imm (fun _ => rfl) _ i j | exact rowF_imm (fun _ => rfl) _ i j⟩) | exact LeC.int (by omega), ?_⟩)) rfl, ?_⟩)
            · repeat (first
                | (refine AWp.draw (id := 21) mixed ?_; refine AList.move rfl rfl rfl ?_; refine AList.idxArr (i := 1) tyOk rfl rfl rfl rfl rfl rfl rfl (by first | rfl | omega) oM ?_; refine AList.idxArr tyOk rfl rfl rfl rfl rfl rfl rfl rfl oM ?_; refine AList.loadA tyOk rfl rfl rfl rfl rfl rfl rfl oM oM ?_; refine AList.move rfl rfl rfl ?_; refine AList.idxArr (i := 1) tyOk rfl rfl rfl rfl rfl rfl rfl (by first | rfl | omega) oM ?_; refine AList.idxArr tyOk rfl rfl rfl rfl rfl rfl rfl rfl oM ?_; refine AList.loadA tyOk rfl rfl rfl rfl rfl rfl rfl oM oM ?_; refine AList.call rfl rfl rfl rfl Try.func17 rfl (by kernel_rfl) (hSh) ?_; refine AList.assign rfl rfl rfl ?_; refine AList.nil ⟨by kernel_rfl, ?_⟩))
              refine ⟨rfl, Wk.mk [(15, some 15)] rfl rfl rfl ?_ ?_⟩
              · repeat (first | exact trivial | refine ⟨⟨_, rfl, by first | exact LeA.c (LeC.refl _ rfl) | exact LeA.c (LeC.ow _ _ rfl) | exact LeA.c (LeC.pt _ _ _ _ _ rfl) | exact LeA.c (LeC.nil _ rfl) | exact LeA.c (LeC.nils _ _) | (refine LeA.int ?_; omega) | (refine LeA.int ?_; dsimp only; omega) | exact LeA.c (LeC.fz rfl rfl (by first | rfl | omega) (fun i _ j _ => ⟨rfl, by first | rfl | exact rowN_imm (fun _ => rfl) _ i j | exact rowF_imm (fun _ => rfl) _ i j⟩))⟩, ?_⟩)
              · repeat (first | exact trivial | refine ⟨by first | exact HeapOk.same rfl rfl rfl rfl | exact HeapOk.lent rfl rfl rfl rfl | exact HeapOk.nil rfl rfl | exact HeapOk.row rfl rfl (by first | rfl | omega) (fun i _ j _ => ⟨rfl, by first | rfl | exact rowN_imm (fun _ => rfl) _ i j | exact rowF_imm (fun _ => rfl) _ i j⟩) | exact HeapOk.box rfl rfl (by repeat (first | exact trivial | refine ⟨by first | exact LeC.refl _ rfl | exact LeC.ow _ _ rfl | exact LeC.nil _ rfl | exact LeC.nils _ _ | exact LeC.fz rfl rfl (by first | rfl | omega) (fun i _ j _ => ⟨rfl, by first | rfl | exact rowN_imm (fun _ => rfl) _ i j | exact rowF_imm (fun _ => rfl) _ i j⟩) | exact LeC.int (by omega), ?_⟩)) rfl, ?_⟩)
            · repeat (first
                | (refine AWp.draw (id := 21) mixed ?_; refine AList.move rfl rfl rfl ?_; refine AList.idxArr (i := 2) tyOk rfl rfl rfl rfl rfl rfl rfl (by first | rfl | omega) oM ?_; refine AList.idxArr tyOk rfl rfl rfl rfl rfl rfl rfl rfl oM ?_; refine AList.loadA tyOk rfl rfl rfl rfl rfl rfl rfl oM oM ?_; refine AList.move rfl rfl rfl ?_; refine AList.idxArr (i := 2) tyOk rfl rfl rfl rfl rfl rfl rfl (by first | rfl | omega) oM ?_; refine AList.idxArr tyOk rfl rfl rfl rfl rfl rfl rfl rfl oM ?_; refine AList.loadA tyOk rfl rfl rfl rfl rfl rfl rfl oM oM ?_; refine AList.call rfl rfl rfl rfl Try.func17 rfl (by kernel_rfl) (hSh) ?_; refine AList.assign rfl rfl rfl ?_; refine AList.nil ⟨by kernel_rfl, ?_⟩))
              refine ⟨rfl, Wk.mk [(15, some 15)] rfl rfl rfl ?_ ?_⟩
              · repeat (first | exact trivial | refine ⟨⟨_, rfl, by first | exact LeA.c (LeC.refl _ rfl) | exact LeA.c (LeC.ow _ _ rfl) | exact LeA.c (LeC.pt _ _ _ _ _ rfl) | exact LeA.c (LeC.nil _ rfl) | exact LeA.c (LeC.nils _ _) | (refine LeA.int ?_; omega) | (refine LeA.int ?_; dsimp only; omega) | exact LeA.c (LeC.fz rfl rfl (by first | rfl | omega) (fun i _ j _ => ⟨rfl, by first | rfl | exact rowN_imm (fun _ => rfl) _ i j | exact rowF_imm (fun _ => rfl) _ i j⟩))⟩, ?_⟩)
              · repeat (first | exact trivial | refine ⟨by first | exact HeapOk.same rfl rfl rfl rfl | exact HeapOk.lent rfl rfl rfl rfl | exact HeapOk.nil rfl rfl | exact HeapOk.row rfl rfl (by first | rfl | omega) (fun i _ j _ => ⟨rfl, by first | rfl | exact rowN_imm (fun _ => rfl) _ i j | exact rowF_imm (fun _ => rfl) _ i j⟩) | exact HeapOk.box rfl rfl (by repeat (first | exact trivial | refine ⟨by first | exact LeC.refl _ rfl | exact LeC.ow _ _ rfl | exact LeC.nil _ rfl | exact LeC.nils _ _ | exact LeC.fz rfl rfl (by first | rfl | omega) (fun i _ j _ => ⟨rfl, by first | rfl | exact rowN_imm (fun _ => rfl) _ i j | exact rowF_imm (fun _ => rfl) _ i j⟩) | exact LeC.int (by omega), ?_⟩)) rfl, ?_⟩)
          refine AWp.seq ?_
          refine AWp.cut (mkSt 188 [(9, .c (bC true)), (15, .c (.pt 15 24 0 0)), (30, .c (iC i)), (31, .c (.ls L.length 2 (rowF mvC mvZ L))), (32, .c (.ls L.length 2 (rowF mvC mvZ L)))] [(15, ⟨false, 1, 24, 38, lF bu⟩)] [15]) ?_ (fun S2 hw2 => AWp.weak hw2 ?_)
          · have hSh := rShifts_A (V i) (U i)
            rw [hL] at hSh
            subst hV hU hbu
            obtain rfl | rfl | rfl : i = 0 ∨ i = 1 ∨ i = 2 := by omega
            · repeat (first
                | (refine AWp.draw (id := 22) mixed ?_; refine AList.move rfl rfl rfl ?_; refine AList.idxArr (i := 0) tyOk rfl rfl rfl rfl rfl rfl rfl (by first | rfl | omega) oM ?_; refine AList.idxArr tyOk rfl rfl rfl rfl rfl rfl rfl rfl oM ?_; refine AList.loadA tyOk rfl rfl rfl rfl rfl rfl rfl oM oM ?_; refine AList.move rfl rfl rfl ?_; refine AList.idxArr (i := 0) tyOk rfl rfl rfl rfl rfl rfl rfl (by first | rfl | omega) oM ?_; refine AList.idxArr tyOk rfl rfl rfl rfl rfl rfl rfl rfl oM ?_; refine AList.loadA tyOk rfl rfl rfl rfl rfl rfl rfl oM oM ?_; refine AList.call rfl rfl rfl rfl Try.func18 rfl (by kernel_rfl) (hSh) ?_; refine AList.assign rfl rfl rfl ?_; refine AList.nil ⟨by kernel_rfl, ?_⟩))
              refine ⟨rfl, Wk.mk [(15, some 15)] rfl rfl rfl ?_ ?_⟩
              · repeat (first | exact trivial | refine ⟨⟨_, rfl, by first | exact LeA.c (LeC.refl _ rfl) | exact LeA.c (LeC.ow _ _ rfl) | exact LeA.c (LeC.pt _ _ _ _ _ rfl) | exact LeA.c (LeC.nil _ rfl) | exact LeA.c (LeC.nils _ _) | (refine LeA.int ?_; omega) | (refine LeA.int ?_; dsimp only; omega) | exact LeA.c (LeC.fz rfl rfl (by first | rfl | omega) (fun i _ j _ => ⟨rfl, by first | rfl | exact rowN_imm (fun _ => rfl) _ i j | exact rowF_imm (fun _ => rfl) _ i j⟩))⟩, ?_⟩)
              · repeat (first | exact trivial | refine ⟨by first | exact HeapOk.same rfl rfl rfl rfl | exact HeapOk.lent rfl rfl rfl rfl | exact HeapOk.nil rfl rfl | exact HeapOk.row rfl rfl (by first | rfl | omega) (fun i _ j _ => ⟨rfl, by first | rfl | exact rowN_imm (fun _ => rfl) _ i j | exact rowF_imm (fun _ => rfl) _ i j⟩) | exact HeapOk.box rfl rfl (by repeat (first | exact trivial | refine ⟨by first | exact LeC.refl _ rfl | exact LeC.ow _ _ rfl | exact LeC.nil _ rfl | exact LeC.nils _ _ | exact LeC.fz rfl rfl (by first | rfl | omega) (fun i _ j _ => ⟨rfl, by first | rfl | exact rowN_imm (fun _ => rfl) _ i j | exact rowF_imm (fun _ => rfl) _ i j⟩) | exact LeC.int (by omega), ?_⟩)) rfl, ?_⟩)
            · repeat (first
                | (refine AWp.draw (id := 22) mixed ?_; refine AList.move rfl rfl rfl ?_; refine AList.idxArr (i := 1) tyOk rfl rfl rfl rfl rfl rfl rfl (by first | rfl | omega) oM ?_; refine AList.idxArr tyOk rfl rfl rfl rfl rfl rfl rfl rfl oM ?_; refine AList.loadA tyOk rfl rfl rfl rfl rfl rfl rfl oM oM ?_; refine AList.move rfl rfl rfl ?_; refine AList.idxArr (i := 1) tyOk rfl rfl rfl rfl rfl rfl rfl (by first | rfl | omega) oM ?_; refine AList.idxArr tyOk rfl rfl rfl rfl rfl rfl rfl rfl oM ?_; refine AList.loadA tyOk rfl rfl rfl rfl rfl rfl rfl oM oM ?_; refine AList.call rfl rfl rfl rfl Try.func18 rfl (by kernel_rfl) (hSh) ?_; refine AList.assign rfl rfl rfl ?_; refine AList.nil ⟨by kernel_rfl, ?_⟩))
              refine ⟨rfl, Wk.mk [(15, some 15)] rfl rfl rfl ?_ ?_⟩
              · repeat (first | exact trivial | refine ⟨⟨_, rfl, by first | exact LeA.c (LeC.refl _ rfl) | exact LeA.c (LeC.ow _ _ rfl) | exact LeA.c (LeC.pt _ _ _ _ _ rfl) | exact LeA.c (LeC.nil _ rfl) | exact LeA.c (LeC.nils _ _) | (refine LeA.int ?_; omega) | (refine LeA.int ?_; dsimp only; omega) | exact LeA.c (LeC.fz rfl rfl (by first | rfl | omega) (fun i _ j _ => ⟨rfl, by first | rfl | exact rowN_imm (fun _ => rfl) _ i j | exact rowF_imm (fun _ => rfl) _ i j⟩))⟩, ?_⟩)
              · repeat (first | exact trivial | refine ⟨by first | exact HeapOk.same rfl rfl rfl rfl | exact HeapOk.lent rfl rfl rfl rfl | exact HeapOk.nil rfl rfl | exact HeapOk.row rfl rfl (by first | rfl | omega) (fun i _ j _ => ⟨rfl, by first | rfl | exact rowN_imm (fun _ => rfl) _ i j | exact rowF_imm (fun _ => rfl) _ i j⟩) | exact HeapOk.box rfl rfl (by repeat (first | exact trivial | refine ⟨by first | exact LeC.refl _ rfl | exact LeC.ow _ _ rfl | exact LeC.nil _ rfl | exact LeC.nils _ _ | exact LeC.fz rfl rfl (by first | rfl | omega) (fun i _ j _ => ⟨rfl, by first | rfl | exact rowN_imm (fun _ => rfl) _ i j | exact rowF_imm (fun _ => rfl) _ i j⟩) | exact LeC.int (by omega), ?_⟩)) rfl, ?_⟩)
            · repeat (first
                | (refine AWp.draw (id := 22) mixed ?_; refine AList.move rfl rfl rfl ?_; refine AList.idxArr (i := 2) tyOk rfl rfl rfl rfl rfl rfl rfl (by first | rfl | omega) oM ?_; refine AList.idxArr tyOk rfl rfl rfl rfl rfl rfl rfl rfl oM ?_; refine AList.loadA tyOk rfl rfl rfl rfl rfl rfl rfl oM oM ?_; refine AList.move rfl rfl rfl ?_; refine AList.idxArr (i := 2) tyOk rfl rfl rfl rfl rfl rfl rfl (by first | rfl | omega) oM ?_; refine AList.idxArr tyOk rfl rfl rfl rfl rfl rfl rfl rfl oM ?_; refine AList.loadA tyOk rfl rfl rfl rfl rfl rfl rfl oM oM ?_; refine AList.call rfl rfl rfl rfl Try.func18 rfl (by kernel_rfl) (hSh) ?_; refine AList.assign rfl rfl rfl ?_; refine AList.nil ⟨by kernel_rfl, ?_⟩))
              refine ⟨rfl, Wk.mk [(15, some 15)] rfl rfl rfl ?_ ?_⟩
              · repeat (first | exact trivial | refine ⟨⟨_, rfl, by first | exact LeA.c (LeC.refl _ rfl) | exact LeA.c (LeC.ow _ _ rfl) | exact LeA.c (LeC.pt _ _ _ _ _ rfl) | exact LeA.c (LeC.nil _ rfl) | exact LeA.c (LeC.nils _ _) | (refine LeA.int ?_; omega) | (refine LeA.int ?_; dsimp only; omega) | exact LeA.c (LeC.fz rfl rfl (by first | rfl | omega) (fun i _ j _ => ⟨rfl, by first | rfl | exact rowN_imm (fun _ => rfl) _ i j | exact rowF_imm (fun _ => rfl) _ i j⟩))⟩, ?_⟩)
              · repeat (first | exact trivial | refine ⟨by first | exact HeapOk.same rfl rfl rfl rfl | exact HeapOk.lent rfl rfl rfl rfl | exact HeapOk.nil rfl rfl | exact HeapOk.row rfl rfl (by first | rfl | omega) (fun i _ j _ => ⟨rfl, by first | rfl | exact rowN_imm (fun _ => rfl) _ i j | exact rowF_imm (fun _ => rfl) _ i j⟩) | exact HeapOk.box rfl rfl (by repeat (first | exact trivial | refine ⟨by first | exact LeC.refl _ rfl | exact LeC.ow _ _ rfl | exact LeC.nil _ rfl | exact LeC.nils _ _ | exact LeC.fz rfl rfl (by first | rfl | omega) (fun i _ j _ => ⟨rfl, by first | rfl | exact rowN_imm (fun _ => rfl) _ i j | exact rowF_imm (fun _ => rfl) _ i j⟩) | exact LeC.int (by omega), ?_⟩)) rfl, ?_⟩)
          obtain ⟨n, hn⟩ : ∃ n, L.length = n := ⟨_, rfl⟩
          rw [hn] at hLn ⊢
          repeat (first
            | refine AWp.seq ?_
            | refine thenA_n ?_
            | refine AWp.block ?_
            | refine AWp.skip ?_
            | refine AWp.condF rfl (by first | rfl | assumption | exact cmF) ?_
            | (refine AWp.region (id := 23) ?_; refine AList.move rfl rfl rfl ?_; refine AList.lenLs tyOk rfl rfl rfl rfl rfl ?_; refine AList.move rfl rfl rfl ?_; refine AList.lenLs tyOk rfl rfl rfl rfl rfl ?_; refine AList.cmpF rfl rfl rfl rfl rfl (by simp only [cmpP, eq_self, decide_true, Bool.not_true]) ?_; refine AList.nil ?_)
            | (refine AWp.region (id := 25) ?_; refine AList.assign rfl rfl rfl ?_; refine AList.nil ?_))
          refine AWp.round (fun j : Nat => mkSt 188 [(9, .c (bC true)), (15, .c (.pt 15 24 0 0)), (30, .c (iC i)), (31, .c (.ls n 2 (rowF mvC mvZ L))), (32, .c (.ls n 2 (rowF mvC mvZ L))), (33, .c (iC j))] [(15, ⟨false, 1, 24, 38, lF bu⟩)] [15])
            (fun j => j ≤ n) (fun j => n - j) 0 (Nat.zero_le _) ?_ (fun j hj => ?_)
          · refine Wk.mk [(15, some 15)] rfl rfl rfl ?_ ?_
            · repeat (first | exact trivial | refine ⟨⟨_, rfl, by first | exact LeA.c (LeC.refl _ rfl) | exact LeA.c (LeC.ow _ _ rfl) | exact LeA.c (LeC.pt _ _ _ _ _ rfl) | exact LeA.c (LeC.nil _ rfl) | exact LeA.c (LeC.nils _ _) | (refine LeA.int ?_; omega) | (refine LeA.int ?_; dsimp only; omega) | exact LeA.c (LeC.fz rfl rfl (by first | rfl | omega) (fun i _ j _ => ⟨rfl, by first | rfl | exact rowN_imm (fun _ => rfl) _ i j | exact rowF_imm (fun _ => rfl) _ i j⟩))⟩, ?_⟩)
            · exact ⟨boxSame rfl rfl hbi hbl, trivial⟩
          · by_cases hjn : j < n
            · repeat (first
                | refine AWp.seq ?_
                | refine thenA_n ?_
                | refine AWp.block ?_
                | refine AWp.skip ?_
                | refine inBlk_n ?_
                | refine AWp.condT rfl (by first | rfl | assumption | exact cmT) ?_
                | refine AWp.condF rfl (by first | rfl | assumption | exact cmF) ?_
                | (refine AWp.region (id := 26) ?_; refine AList.move rfl rfl rfl ?_; refine AList.move rfl rfl rfl ?_; refine AList.lenLs tyOk rfl rfl rfl rfl rfl ?_; refine AList.cmpT rfl rfl rfl rfl rfl cmT ?_; refine AList.nil ?_)
                | (refine AWp.region (id := 27) ?_; refine AList.move rfl rfl rfl ?_; refine AList.add rfl rfl rfl rfl (by omega) (by omega) ?_; refine AList.assign rfl rfl rfl ?_; refine AList.nil ?_)
                | (refine AWp.draw (id := 28) mixed ?_; refine AList.move rfl rfl rfl ?_; refine AList.move rfl rfl rfl ?_; refine AList.idx (k := j) tyOk rfl rfl rfl rfl rfl rfl rfl rfl (by first | rfl | omega) oM oM ?_; refine AList.loadAl tyOk rfl rfl rfl rfl rfl oM ?_; refine AList.move rfl rfl rfl ?_; refine AList.move rfl rfl rfl ?_; refine AList.idx (k := j) tyOk rfl rfl rfl rfl rfl rfl rfl rfl (by first | rfl | omega) oM oM ?_; refine AList.loadAl tyOk rfl rfl rfl rfl rfl oM ?_; refine AList.binAg rfl rfl rfl rfl rfl rfl (by kernel_rfl) (mo_self (L.getD j mvZ)) ?_; refine AList.nil ⟨by kernel_rfl, ?_⟩))
              refine ⟨j + 1, hjn, Wk.mk [(15, some 15)] rfl rfl rfl ?_ ?_, by omega⟩
              · repeat (first | exact trivial | refine ⟨⟨_, rfl, by first | exact LeA.c (LeC.refl _ rfl) | exact LeA.c (LeC.ow _ _ rfl) | exact LeA.c (LeC.pt _ _ _ _ _ rfl) | exact LeA.c (LeC.nil _ rfl) | exact LeA.c (LeC.nils _ _) | (refine LeA.int ?_; omega) | (refine LeA.int ?_; dsimp only; omega) | exact LeA.c (LeC.fz rfl rfl (by first | rfl | omega) (fun i _ j _ => ⟨rfl, by first | rfl | exact rowN_imm (fun _ => rfl) _ i j | exact rowF_imm (fun _ => rfl) _ i j⟩))⟩, ?_⟩)
              · exact ⟨boxSame rfl rfl hbi hbl, trivial⟩
            · repeat (first
                | refine AWp.seq ?_
                | refine thenA_n ?_
                | refine AWp.exit ?_
                | refine thenA_e ?_
                | refine inBlk_n ?_
                | refine inBlk_hit ?_
                | refine AWp.condF rfl (by first | rfl | assumption | exact cmF) ?_
                | (refine AWp.region (id := 20) ?_; refine AList.move rfl rfl rfl ?_; refine AList.add rfl rfl rfl rfl (by omega) (by omega) ?_; refine AList.assign rfl rfl rfl ?_; refine AList.nil ?_)
                | (refine AWp.region (id := 26) ?_; refine AList.move rfl rfl rfl ?_; refine AList.move rfl rfl rfl ?_; refine AList.lenLs tyOk rfl rfl rfl rfl rfl ?_; refine AList.cmpF rfl rfl rfl rfl rfl cmF ?_; refine AList.nil ?_))
              refine ⟨i + 1, hi3, Wk.mk [(15, some 15)] rfl rfl rfl ?_ ?_, by omega⟩
              · repeat (first | exact trivial | refine ⟨⟨_, rfl, by first | exact LeA.c (LeC.refl _ rfl) | exact LeA.c (LeC.ow _ _ rfl) | exact LeA.c (LeC.pt _ _ _ _ _ rfl) | exact LeA.c (LeC.nil _ rfl) | exact LeA.c (LeC.nils _ _) | (refine LeA.int ?_; omega) | (refine LeA.int ?_; dsimp only; omega) | exact LeA.c (LeC.fz rfl rfl (by first | rfl | omega) (fun i _ j _ => ⟨rfl, by first | rfl | exact rowN_imm (fun _ => rfl) _ i j | exact rowF_imm (fun _ => rfl) _ i j⟩))⟩, ?_⟩)
              · exact ⟨boxSame rfl rfl hbi hbl, trivial⟩
        · repeat (first
            | refine AWp.seq ?_
            | refine thenA_n ?_
            | refine AWp.exit ?_
            | refine AWp.ret ?_
            | refine AWp.condF rfl (by first | rfl | assumption | exact cmF) ?_
            | (refine AWp.region (id := 19) ?_; refine AList.move rfl rfl rfl ?_; refine AList.cmpF rfl rfl rfl rfl rfl cmF ?_; refine AList.nil ?_)
            | (refine AWp.region (id := 30) ?_; refine AList.move rfl rfl rfl ?_; refine AList.assign rfl rfl rfl ?_; refine AList.nil ?_))
          refine ⟨_, rfl, ?_⟩
          refine ⟨mkSt 188 [(8, .c (bC true))] [] [], [], Wk.mk [] rfl rfl rfl ?_ trivial, rfl, rfl, ARets.one (x := .c _) (ARes.tmp rfl rfl)⟩
          repeat (first | exact trivial | refine ⟨⟨_, rfl, by first | exact LeA.c (LeC.refl _ rfl) | exact LeA.c (LeC.ow _ _ rfl) | exact LeA.c (LeC.pt _ _ _ _ _ rfl) | exact LeA.c (LeC.nil _ rfl) | exact LeA.c (LeC.nils _ _) | (refine LeA.int ?_; omega) | (refine LeA.int ?_; dsimp only; omega) | exact LeA.c (LeC.fz rfl rfl (by first | rfl | omega) (fun i _ j _ => ⟨rfl, by first | rfl | exact rowN_imm (fun _ => rfl) _ i j | exact rowF_imm (fun _ => rfl) _ i j⟩))⟩, ?_⟩)
end Go.Proofs.Ytijaioiojclooaa
end
