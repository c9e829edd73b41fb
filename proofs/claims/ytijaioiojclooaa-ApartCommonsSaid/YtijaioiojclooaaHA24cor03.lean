/- Parts of the proof: A24k, A24s. -/
import Derived.Test.YtijaioiojclooaaG20
import Derived.Test.YtijaioiojclooaaHA24cor02
import Derived.Test.YtijaioiojclooaaG18
import Derived.Test.YtijaioiojclooaaHA24cor01
import Derived.Test.YtijaioiojclooaaG19
import Derived.Test.YtijaioiojclooaaG14
import Derived.Test.YtijaioiojclooaaProg
import Derived.Test.YtijaioiojclooaaG11
import Derived.Test.YtijaioiojclooaaG17
import Derived.Test.YtijaioiojclooaaG13
import Derived.Test.YtijaioiojclooaaG08
import Derived.WalkKit
import Derived.Test.YtijaioiojclooaaG09
import Derived.Test.YtijaioiojclooaaG10
import Derived.Test.YtijaioiojclooaaG01
import Derived.Lib.Hide
import Derived.Deep.QuietTactic
import Derived.BigQuiet
import Derived.Deep.DrawnRows
import Derived.Test.YtijaioiojclooaaG12
import Derived.Shelf.Abstract
import Derived.Test.YtijaioiojclooaaG07
import Derived.Laws.StructEq
import Derived.Deep.AppendLies
import Derived.Test.YtijaioiojclooaaG16
import Derived.RangeFuncNested
import Derived.Maps.AppendAt
import Derived.OwnWalk
import Derived.StillTail
import Derived.Below
import Derived.Deep.Draws
import Derived.KernelRfl
import Derived.Laws.Cover3
import Derived.Test.YtijaioiojclooaaG06
import Derived.Test.YtijaioiojclooaaG05
import Derived.Great.BuildSlice
import Derived.Test.YtijaioiojclooaaG04
import Derived.Test.YtijaioiojclooaaG03
import Derived.RangeFuncLeaves
import Derived.RangeFuncRecord
import Derived.Test.YtijaioiojclooaaG15
import Derived.Test.YtijaioiojclooaaG02
import Derived.OrdersIn
import Derived.TacticsIn
import Derived.RangeFuncCalls
import Derived.Test.YtijaioiojclooaaG24
import Derived.Test.YtijaioiojclooaaG23
import Derived.Scope
import Derived.Test.YtijaioiojclooaaG21
import Derived.Test.YtijaioiojclooaaG22
set_option linter.unusedSimpArgs false
set_option linter.unusedVariables false
section
namespace Go.Proofs.Ytijaioiojclooaa
open Go.RowKit Go.Flow Go.AV Go.Plain
theorem clC_imm (c : Cl) : (clC c).all immC = true := rfl
theorem stN_lim (w : Int) (x y : Bg) : stN w (lim4 x) (lim4 y) = stN w x y := by unfold stN; rw [lim_idem, lim_idem]
set_option maxRecDepth 100000 in
theorem rStrip_A (w : Int) (x y : Bg) (h : 0 ≤ w ∧ w ≤ 96) : ACalls Try.prog 54 [.c (iC w), .ag (bgC x), .ag (bgC y)] (.c (iC (stN w x y))) := by
  have h1 := rlim24_A x
  have h2 := rlim24_A y
  have b1 := lim_bds x
  have b2 := lim_bds y
  refine acalls_at Try.func54 rfl rfl Try.ntmps54 rfl ?_
  repeat (first
    | refine AWp.seq ?_
    | refine thenA_n ?_
    | refine AWp.ret ?_
    | (refine AWp.region (id := 0) ?_; refine AList.box rfl rfl rfl rfl rfl ?_; refine AList.box rfl rfl rfl rfl rfl ?_; refine AList.assign rfl rfl rfl ?_; refine AList.nil ?_)
    | (refine AWp.draw (id := 1) mixed ?_; refine AList.move rfl rfl rfl ?_; refine AList.add rfl rfl rfl rfl (by omega) (by omega) ?_; refine AList.loadA tyOk rfl rfl rfl rfl rfl rfl rfl oM oM ?_; refine AList.call rfl rfl rfl rfl Try.func43 rfl (by kernel_rfl) (h1) ?_; refine AList.field1 tyOk rfl rfl rfl Try.underlying29 rfl rfl rfl rfl ?_; refine AList.loadA tyOk rfl rfl rfl rfl rfl rfl rfl oM oM ?_; refine AList.call rfl rfl rfl rfl Try.func43 rfl (by kernel_rfl) (h2) ?_; refine AList.field1 tyOk rfl rfl rfl Try.underlying29 rfl rfl rfl rfl ?_; refine AList.maxI rfl rfl rfl rfl ?_; refine AList.minI rfl rfl rfl rfl ?_; refine AList.assign rfl rfl rfl ?_; refine AList.nil ⟨by kernel_rfl, ?_⟩))
  refine ⟨mkSt 17 [(6, .c (iC (stN w x y)))] [] [], [], Wk.mk [] rfl rfl rfl ?_ trivial, rfl, rfl, ARets.one (x := .c _) (ARes.tmp rfl rfl)⟩
  repeat (first | exact trivial | refine ⟨⟨_, rfl, by first | exact LeA.c (LeC.refl _ rfl) | exact LeA.c (LeC.ow _ _ rfl) | exact LeA.c (LeC.pt _ _ _ _ _ rfl) | exact LeA.c (LeC.nil _ rfl) | exact LeA.c (LeC.nils _ _) | (refine LeA.int ?_; omega) | (refine LeA.int ?_; dsimp only; omega) | exact LeA.c (LeC.fz rfl rfl (by first | rfl | omega) (fun i _ j _ => ⟨rfl, by first | rfl | exact rowN_imm (fun _ => rfl) _ i j | exact rowF_imm (fun _ => rfl) _ i j⟩))⟩, ?_⟩)
set_option maxRecDepth 100000 in
theorem Alone_A (a b : Bp) (c : Cl) (t : Int) (ha : chk a.W a.H a.n = 0) (hb : chk b.W b.H b.n = 0) (hx : -1000 ≤ c.dx ∧ c.dx ≤ 1000) (hy : -1000 ≤ c.dy ∧ c.dy ≤ 1000) (hc : -1000 ≤ c.col ∧ c.col ≤ 1000) (ht : 0 ≤ t ∧ t ≤ 16) :
    ACalls Try.prog 71 [.ag (bpC a), .ag (bpC b), .ag (clC c), .c (iC t)] (.tu [.c (iC (onlyN a b c.dx c.dy c.col (c.col + t))), .c (iC (onlyN b a (-c.dx) (-c.dy) (c.col - c.dx) (c.col - c.dx + t)))]) := by
  have h1 := Only_A a b c.dx c.dy c.col (c.col + t) ha hb hx hy
  have h2 := Only_A b a (-c.dx) (-c.dy) (c.col - c.dx) (c.col - c.dx + t) hb ha (by omega) (by omega)
  refine acalls_at Try.func71 rfl rfl Try.ntmps71 rfl ?_
  repeat (first
    | refine AWp.seq ?_
    | refine thenA_n ?_
    | refine AWp.ret ?_
    | (refine AWp.region (id := 0) ?_; refine AList.box rfl rfl rfl rfl rfl ?_; refine AList.box rfl rfl rfl rfl rfl ?_; refine AList.box rfl rfl rfl rfl rfl ?_; refine AList.assign rfl rfl rfl ?_; refine AList.assign rfl rfl rfl ?_; refine AList.nil ?_)
    | (refine AWp.region (id := 1) ?_; refine AList.loadA tyOk rfl rfl rfl rfl rfl rfl rfl oM oM ?_; refine AList.loadA tyOk rfl rfl rfl rfl rfl rfl rfl oM oM ?_; refine AList.fieldPt tyOk rfl rfl rfl rfl rfl rfl rfl ?_; refine AList.load1 tyOk rfl rfl rfl rfl rfl rfl rfl oM oM ?_; refine AList.fieldPt tyOk rfl rfl rfl rfl rfl rfl rfl ?_; refine AList.load1 tyOk rfl rfl rfl rfl rfl rfl rfl oM oM ?_; refine AList.fieldPt tyOk rfl rfl rfl rfl rfl rfl rfl ?_; refine AList.load1 tyOk rfl rfl rfl rfl rfl rfl rfl oM oM ?_; refine AList.fieldPt tyOk rfl rfl rfl rfl rfl rfl rfl ?_; refine AList.load1 tyOk rfl rfl rfl rfl rfl rfl rfl oM oM ?_; refine AList.move rfl rfl rfl ?_; refine AList.add rfl rfl rfl rfl (by omega) (by omega) ?_; refine AList.call rfl rfl rfl rfl Try.func86 rfl (by kernel_rfl) (h1) ?_; refine AList.assign rfl rfl rfl ?_; refine AList.nil ?_)
    | (refine AWp.region (id := 2) ?_; refine AList.loadA tyOk rfl rfl rfl rfl rfl rfl rfl oM oM ?_; refine AList.loadA tyOk rfl rfl rfl rfl rfl rfl rfl oM oM ?_; refine AList.fieldPt tyOk rfl rfl rfl rfl rfl rfl rfl ?_; refine AList.load1 tyOk rfl rfl rfl rfl rfl rfl rfl oM oM ?_; refine AList.neg rfl rfl rfl (by omega) (by omega) ?_; refine AList.fieldPt tyOk rfl rfl rfl rfl rfl rfl rfl ?_; refine AList.load1 tyOk rfl rfl rfl rfl rfl rfl rfl oM oM ?_; refine AList.neg rfl rfl rfl (by omega) (by omega) ?_; refine AList.fieldPt tyOk rfl rfl rfl rfl rfl rfl rfl ?_; refine AList.load1 tyOk rfl rfl rfl rfl rfl rfl rfl oM oM ?_; refine AList.fieldPt tyOk rfl rfl rfl rfl rfl rfl rfl ?_; refine AList.load1 tyOk rfl rfl rfl rfl rfl rfl rfl oM oM ?_; refine AList.sub rfl rfl rfl rfl (by omega) (by omega) ?_; refine AList.fieldPt tyOk rfl rfl rfl rfl rfl rfl rfl ?_; refine AList.load1 tyOk rfl rfl rfl rfl rfl rfl rfl oM oM ?_; refine AList.fieldPt tyOk rfl rfl rfl rfl rfl rfl rfl ?_; refine AList.load1 tyOk rfl rfl rfl rfl rfl rfl rfl oM oM ?_; refine AList.sub rfl rfl rfl rfl (by omega) (by omega) ?_; refine AList.move rfl rfl rfl ?_; refine AList.add rfl rfl rfl rfl (by omega) (by omega) ?_; refine AList.call rfl rfl rfl rfl Try.func86 rfl (by kernel_rfl) (h2) ?_; refine AList.assign rfl rfl rfl ?_; refine AList.nil ?_)
    | (refine AWp.region (id := 3) ?_; refine AList.move rfl rfl rfl ?_; refine AList.move rfl rfl rfl ?_; refine AList.assign rfl rfl rfl ?_; refine AList.assign rfl rfl rfl ?_; refine AList.nil ?_))
  refine ⟨mkSt 48 [(8, .c (iC (onlyN a b c.dx c.dy c.col (c.col + t)))), (9, .c (iC (onlyN b a (-c.dx) (-c.dy) (c.col - c.dx) (c.col - c.dx + t))))] [] [], [], Wk.mk [] rfl rfl rfl ?_ trivial, rfl, rfl, ARets.two (x := .c _) (y := .c _) (ARes.tmp rfl rfl) (ARes.tmp rfl rfl)⟩
  repeat (first | exact trivial | refine ⟨⟨_, rfl, by first | exact LeA.c (LeC.refl _ rfl) | exact LeA.c (LeC.ow _ _ rfl) | exact LeA.c (LeC.pt _ _ _ _ _ rfl) | exact LeA.c (LeC.nil _ rfl) | exact LeA.c (LeC.nils _ _) | (refine LeA.int ?_; omega) | (refine LeA.int ?_; dsimp only; omega) | exact LeA.c (LeC.fz rfl rfl (by first | rfl | omega) (fun i _ j _ => ⟨rfl, by first | rfl | exact rowN_imm (fun _ => rfl) _ i j | exact rowF_imm (fun _ => rfl) _ i j⟩))⟩, ?_⟩)
set_option maxHeartbeats 1000000 in
set_option maxRecDepth 100000 in
theorem rExcess_A (a b : Bp) (x y : Bg) (c : Cl) (ha : chk a.W a.H a.n = 0) (hb : chk b.W b.H b.n = 0) (hx : -1000 ≤ c.dx ∧ c.dx ≤ 1000) (hy : -1000 ≤ c.dy ∧ c.dy ≤ 1000) (hc : -1000 ≤ c.col ∧ c.col ≤ 1000) :
    ACalls Try.prog 37 [.ag (bpC a), .ag (bpC b), .ag (bgC x), .ag (bgC y), .ag (clC c)] (.c (iC (xsV a b x y c))) := by
  have h1 := rlim24_A x
  have h2 := rlim24_A y
  have b1 := lim_bds x
  have b2 := lim_bds y
  have hw := okB ha
  have hS := rStrip_A a.W (lim4 x) (lim4 y) ⟨hw.1, hw.2.1⟩
  rw [stN_lim] at hS
  have ht := stN_bd x y hw.1
  have hA := Alone_A a b c (stN a.W x y) ha hb hx hy hc (by omega)
  have e1 := onlyN_bd a b c.dx c.dy c.col (c.col + stN a.W x y) ha
  have e2 := onlyN_bd b a (-c.dx) (-c.dy) (c.col - c.dx) (c.col - c.dx + stN a.W x y) hb
  unfold xsV
  obtain ⟨m, hm⟩ : ∃ m, onlyN a b c.dx c.dy c.col (c.col + stN a.W x y) = m := ⟨_, rfl⟩
  obtain ⟨n, hn⟩ : ∃ n, onlyN b a (-c.dx) (-c.dy) (c.col - c.dx) (c.col - c.dx + stN a.W x y) = n := ⟨_, rfl⟩
  rw [hm, hn] at hA ⊢
  rw [hm] at e1
  rw [hn] at e2
  refine acalls_at Try.func37 rfl rfl Try.ntmps37 rfl ?_
  repeat (first
    | refine AWp.seq ?_
    | refine thenA_n ?_
    | refine AWp.ret ?_
    | (refine AWp.region (id := 0) ?_; refine AList.box rfl rfl rfl rfl rfl ?_; refine AList.box rfl rfl rfl rfl rfl ?_; refine AList.box rfl rfl rfl rfl rfl ?_; refine AList.box rfl rfl rfl rfl rfl ?_; refine AList.box rfl rfl rfl rfl rfl ?_; refine AList.assign rfl rfl rfl ?_; refine AList.nil ?_)
    | (refine AWp.region (id := 1) ?_; refine AList.loadA tyOk rfl rfl rfl rfl rfl rfl rfl oM oM ?_; refine AList.call rfl rfl rfl rfl Try.func43 rfl (by kernel_rfl) (h1) ?_; refine AList.store tyOk rfl rfl rfl rfl rfl rfl rfl rfl oM oM ?_; refine AList.nil ?_)
    | (refine AWp.region (id := 2) ?_; refine AList.loadA tyOk rfl rfl rfl rfl rfl rfl rfl oM oM ?_; refine AList.call rfl rfl rfl rfl Try.func43 rfl (by kernel_rfl) (h2) ?_; refine AList.store tyOk rfl rfl rfl rfl rfl rfl rfl rfl oM oM ?_; refine AList.nil ?_)
    | (refine AWp.draw (id := 3) mixed ?_; refine AList.loadA tyOk rfl rfl rfl rfl rfl rfl rfl oM oM ?_; refine AList.loadA tyOk rfl rfl rfl rfl rfl rfl rfl oM oM ?_; refine AList.loadA tyOk rfl rfl rfl rfl rfl rfl rfl oM oM ?_; refine AList.fieldPt tyOk rfl rfl rfl rfl rfl rfl rfl ?_; refine AList.load1 tyOk rfl rfl rfl rfl rfl rfl rfl oM oM ?_; refine AList.loadA tyOk rfl rfl rfl rfl rfl rfl rfl oM oM ?_; refine AList.loadA tyOk rfl rfl rfl rfl rfl rfl rfl oM oM ?_; refine AList.call rfl rfl rfl rfl Try.func54 rfl (by kernel_rfl) (hS) ?_; refine AList.call rfl rfl rfl rfl Try.func71 rfl (by kernel_rfl) (hA) ?_; refine AList.move rfl rfl rfl ?_; refine AList.extract rfl rfl rfl rfl ?_; refine AList.extract rfl rfl rfl rfl ?_; refine AList.assign rfl rfl rfl ?_; refine AList.assign rfl rfl rfl ?_; refine AList.nil ⟨by kernel_rfl, ?_⟩)
    | (refine AWp.region (id := 4) ?_; refine AList.move rfl rfl rfl ?_; refine AList.fieldPt tyOk rfl rfl rfl rfl rfl rfl rfl ?_; refine AList.load1 tyOk rfl rfl rfl rfl rfl rfl rfl oM oM ?_; refine AList.sub rfl rfl rfl rfl (by omega) (by omega) ?_; refine AList.fieldPt tyOk rfl rfl rfl rfl rfl rfl rfl ?_; refine AList.load1 tyOk rfl rfl rfl rfl rfl rfl rfl oM oM ?_; refine AList.sub rfl rfl rfl rfl (by omega) (by omega) ?_; refine AList.move rfl rfl rfl ?_; refine AList.fieldPt tyOk rfl rfl rfl rfl rfl rfl rfl ?_; refine AList.load1 tyOk rfl rfl rfl rfl rfl rfl rfl oM oM ?_; refine AList.sub rfl rfl rfl rfl (by omega) (by omega) ?_; refine AList.fieldPt tyOk rfl rfl rfl rfl rfl rfl rfl ?_; refine AList.load1 tyOk rfl rfl rfl rfl rfl rfl rfl oM oM ?_; refine AList.sub rfl rfl rfl rfl (by omega) (by omega) ?_; refine AList.maxI rfl rfl rfl rfl ?_; refine AList.assign rfl rfl rfl ?_; refine AList.nil ?_))
  refine ⟨mkSt 44 [(10, .c (iC (ovN x y m n)))] [] [], [], Wk.mk [] rfl rfl rfl ?_ trivial, rfl, rfl, ARets.one (x := .c _) (ARes.tmp rfl rfl)⟩
  repeat (first | exact trivial | refine ⟨⟨_, rfl, by first | exact LeA.c (LeC.refl _ rfl) | exact LeA.c (LeC.ow _ _ rfl) | exact LeA.c (LeC.pt _ _ _ _ _ rfl) | exact LeA.c (LeC.nil _ rfl) | exact LeA.c (LeC.nils _ _) | (refine LeA.int ?_; omega) | (refine LeA.int ?_; dsimp only; omega) | exact LeA.c (LeC.fz rfl rfl (by first | rfl | omega) (fun i _ j _ => ⟨rfl, by first | rfl | exact rowN_imm (fun _ => rfl) _ i j | exact rowF_imm (fun _ => rfl) _ i j⟩))⟩, ?_⟩)
set_option maxHeartbeats 2000000 in
set_option maxRecDepth 100000 in
theorem All_A (w : Int) (x y : Bg) (hw : 0 ≤ w ∧ w ≤ 96) : ACalls Try.prog 36 [.c (iC w), .ag (bgC x), .ag (bgC y)] (.c (.ls (alL w x y).length 3 (rowF clC clZ (alL w x y)))) := by
  have hSh := rShifts_A x y
  have hSt := rStrip_A w x y hw
  have ht := stN_bd x y hw.1
  obtain ⟨-, hm4⟩ := shN_eq x y
  have hM : ((alM w x y : Nat) : Int) = w + 9 - stN w x y := by unfold alM; omega
  have hbd : ∀ k, k < (shL (shN x y)).length → _ := fun k hk => sh_bd hk
  have hSl : (shL (shN x y)).length ≤ 81 := by
    rw [shL_len hm4]
    have := Nat.mul_le_mul (show 2 * shN x y + 1 ≤ 9 by omega) (show 2 * shN x y + 1 ≤ 9 by omega)
    omega
  have htake : ∀ k, k < (shL (shN x y)).length → alK w x y ((shL (shN x y)).take (k + 1)) = alK w x y ((shL (shN x y)).take k) ++ alI 0 ((shL (shN x y)).getD k mvZ) (alM w x y) := fun k hk => alK_take w x y _ k hk
  have hall : alL w x y = alK w x y ((shL (shN x y)).take (shL (shN x y)).length) := by unfold alL; rw [List.take_length]
  rw [hall]
  generalize shL (shN x y) = S at *
  generalize stN w x y = t at *
  generalize alM w x y = M at *
  generalize hAK : alK w x y = AK at htake hall ⊢
  generalize hnl : S.length = n at hSh hbd hSl htake hall ⊢
  refine acalls_at Try.func36 rfl rfl Try.ntmps36 rfl ?_
  repeat (first
    | refine AWp.seq ?_
    | refine thenA_n ?_
    | refine AWp.block ?_
    | (refine AWp.region (id := 0) ?_; refine AList.box rfl rfl rfl rfl rfl ?_; refine AList.box rfl rfl rfl rfl rfl ?_; refine AList.assign rfl rfl rfl ?_; refine AList.nil ?_)
    | (refine AWp.region (id := 1) ?_; refine AList.assign rfl rfl rfl ?_; refine AList.nil ?_)
    | (refine AWp.region (id := 2) ?_; refine AList.loadA tyOk rfl rfl rfl rfl rfl rfl rfl oM oM ?_; refine AList.loadA tyOk rfl rfl rfl rfl rfl rfl rfl oM oM ?_; refine AList.call rfl rfl rfl rfl Try.func18 rfl (by kernel_rfl) (hSh) ?_; refine AList.assign rfl rfl rfl ?_; refine AList.nil ?_)
    | (refine AWp.region (id := 3) ?_; refine AList.move rfl rfl rfl ?_; refine AList.add rfl rfl rfl rfl (by omega) (by omega) ?_; refine AList.move rfl rfl rfl ?_; refine AList.loadA tyOk rfl rfl rfl rfl rfl rfl rfl oM oM ?_; refine AList.loadA tyOk rfl rfl rfl rfl rfl rfl rfl oM oM ?_; refine AList.call rfl rfl rfl rfl Try.func54 rfl (by kernel_rfl) (hSt) ?_; refine AList.sub rfl rfl rfl rfl (by omega) (by omega) ?_; refine AList.assign rfl rfl rfl ?_; refine AList.nil ?_)
    | (refine AWp.region (id := 4) ?_; refine AList.assign rfl rfl rfl ?_; refine AList.nil ?_))
  refine AWp.round (fun s : Nat × List Cl => mkSt 49 [(7, .c (.ow 20)), (8, .c (.ls n 2 (rowF mvC mvZ S))), (9, .c (iC (w + 4 - t))), (10, .c (iC s.1))] [(20, ⟨true, s.2.length, 3, 40, rowF clC clZ s.2⟩)] [20])
    (fun s => s.1 ≤ n ∧ s.2 = AK (S.take s.1) ∧ s.2.length = M * s.1) (fun s => n - s.1) (0, []) ⟨Nat.zero_le _, by rw [List.take_zero, ← hAK]; rfl, by simp⟩ ?_ (fun s hs => ?_)
  · refine Wk.mk [(20, none)] rfl rfl rfl ?_ ?_
    · repeat (first | exact trivial | refine ⟨⟨_, rfl, by first | exact LeA.c (LeC.refl _ rfl) | exact LeA.c (LeC.ow _ _ rfl) | exact LeA.c (LeC.pt _ _ _ _ _ rfl) | exact LeA.c (LeC.nil _ rfl) | exact LeA.c (LeC.nils _ _) | (refine LeA.int ?_; omega) | (refine LeA.int ?_; dsimp only; omega) | exact LeA.c (LeC.fz rfl rfl (by first | rfl | omega) (fun i _ j _ => ⟨rfl, by first | rfl | exact rowN_imm (fun _ => rfl) _ i j | exact rowF_imm (fun _ => rfl) _ i j⟩))⟩, ?_⟩)
    · repeat (first | exact trivial | refine ⟨by first | exact HeapOk.same rfl rfl rfl rfl | exact HeapOk.lent rfl rfl rfl rfl | exact HeapOk.nil rfl rfl | exact HeapOk.row rfl rfl (by first | rfl | omega) (fun i _ j _ => ⟨rfl, by first | rfl | exact rowN_imm (fun _ => rfl) _ i j | exact rowF_imm (fun _ => rfl) _ i j⟩) | exact HeapOk.box rfl rfl (by repeat (first | exact trivial | refine ⟨by first | exact LeC.refl _ rfl | exact LeC.ow _ _ rfl | exact LeC.nil _ rfl | exact LeC.nils _ _ | exact LeC.fz rfl rfl (by first | rfl | omega) (fun i _ j _ => ⟨rfl, by first | rfl | exact rowN_imm (fun _ => rfl) _ i j | exact rowF_imm (fun _ => rfl) _ i j⟩) | exact LeC.int (by omega), ?_⟩)) rfl, ?_⟩)
  · obtain ⟨k, L⟩ := s
    obtain ⟨hk, hL, hl⟩ := hs
    dsimp only at hk hL hl
    dsimp only
    by_cases hkn : k < n
    · have hb := hbd k hkn
      have hMk : M * k ≤ 105 * 81 := Nat.mul_le_mul (by omega) (by omega)
      obtain ⟨d, hd⟩ : ∃ d, S.getD k mvZ = d := ⟨_, rfl⟩
      have htk := htake k hkn
      rw [hd] at htk
      repeat (first
        | refine AWp.seq ?_
        | refine thenA_n ?_
        | refine AWp.block ?_
        | refine AWp.skip ?_
        | refine AWp.condT rfl (by first | rfl | assumption | exact cmT) ?_
        | (refine AWp.region (id := 5) ?_; refine AList.move rfl rfl rfl ?_; refine AList.move rfl rfl rfl ?_; refine AList.lenLs tyOk rfl rfl rfl rfl rfl ?_; refine AList.cmpT rfl rfl rfl rfl rfl cmT ?_; refine AList.nil ?_)
        | (refine AWp.region (id := 7) ?_; refine AList.assign rfl rfl rfl ?_; refine AList.nil ?_))
      refine AWp.round (fun s : Nat × List Cl => mkSt 49 [(7, .c (.ow 20)), (8, .c (.ls n 2 (rowF mvC mvZ S))), (9, .c (iC (w + 4 - t))), (10, .c (iC k)), (11, .c (iC ((s.1 : Int) - 4)))] [(20, ⟨true, s.2.length, 3, 40, rowF clC clZ s.2⟩)] [20])
        (fun s => s.1 ≤ M ∧ s.2 = AK (S.take k) ++ alI 0 d s.1 ∧ s.2.length = M * k + s.1) (fun s => M - s.1) (0, L) ⟨Nat.zero_le _, by rw [hL]; exact (List.append_nil _).symm, hl⟩ ?_ (fun s hs => ?_)
      · refine Wk.mk [(20, some 20)] rfl rfl rfl ?_ ?_
        · repeat (first | exact trivial | refine ⟨⟨_, rfl, by first | exact LeA.c (LeC.refl _ rfl) | exact LeA.c (LeC.ow _ _ rfl) | exact LeA.c (LeC.pt _ _ _ _ _ rfl) | exact LeA.c (LeC.nil _ rfl) | exact LeA.c (LeC.nils _ _) | (refine LeA.int ?_; omega) | (refine LeA.int ?_; dsimp only; omega) | exact LeA.c (LeC.fz rfl rfl (by first | rfl | omega) (fun i _ j _ => ⟨rfl, by first | rfl | exact rowN_imm (fun _ => rfl) _ i j | exact rowF_imm (fun _ => rfl) _ i j⟩))⟩, ?_⟩)
        · repeat (first | exact trivial | refine ⟨by first | exact HeapOk.same rfl rfl rfl rfl | exact HeapOk.lent rfl rfl rfl rfl | exact HeapOk.nil rfl rfl | exact HeapOk.row rfl rfl (by first | rfl | omega) (fun i _ j _ => ⟨rfl, by first | rfl | exact rowN_imm (fun _ => rfl) _ i j | exact rowF_imm (fun _ => rfl) _ i j⟩) | exact HeapOk.box rfl rfl (by repeat (first | exact trivial | refine ⟨by first | exact LeC.refl _ rfl | exact LeC.ow _ _ rfl | exact LeC.nil _ rfl | exact LeC.nils _ _ | exact LeC.fz rfl rfl (by first | rfl | omega) (fun i _ j _ => ⟨rfl, by first | rfl | exact rowN_imm (fun _ => rfl) _ i j | exact rowF_imm (fun _ => rfl) _ i j⟩) | exact LeC.int (by omega), ?_⟩)) rfl, ?_⟩)
      · obtain ⟨i, L2⟩ := s
        obtain ⟨hi, hL2, hl2⟩ := hs
        dsimp only at hi hL2 hl2
        dsimp only
        by_cases hiM : i < M
        · have hlen : (L2 ++ [(⟨d.1, d.2, (i : Int) - 4⟩ : Cl)]).length = L2.length + 1 := by simp
          repeat (first
            | refine AWp.seq ?_
            | refine thenA_n ?_
            | refine AWp.block ?_
            | refine AWp.skip ?_
            | refine inBlk_n ?_
            | refine AWp.condT rfl (by first | rfl | assumption | exact cmT) ?_
            | (refine AWp.region (id := 8) ?_; refine AList.move rfl rfl rfl ?_; refine AList.move rfl rfl rfl ?_; refine AList.cmpT rfl rfl rfl rfl rfl cmT ?_; refine AList.nil ?_)
            | (refine AWp.region (id := 9) ?_; refine AList.move rfl rfl rfl ?_; refine AList.add rfl rfl rfl rfl (by omega) (by omega) ?_; refine AList.assign rfl rfl rfl ?_; refine AList.nil ?_)
            | (refine AWp.draw (id := 10) mixed ?_; refine AList.move rfl rfl rfl ?_; refine AList.move rfl rfl rfl ?_; refine AList.move rfl rfl rfl ?_; refine AList.idx (k := k) tyOk rfl rfl rfl rfl rfl rfl rfl rfl (by first | rfl | omega) oM oM ?_; refine AList.fieldPl tyOk rfl rfl rfl rfl rfl rfl rfl ?_; refine AList.load1l tyOk rfl rfl rfl rfl rfl oM ?_; refine AList.move rfl rfl rfl ?_; refine AList.move rfl rfl rfl ?_; refine AList.idx (k := k) tyOk rfl rfl rfl rfl rfl rfl rfl rfl (by first | rfl | omega) oM oM ?_; refine AList.fieldPl tyOk rfl rfl rfl rfl rfl rfl rfl ?_; refine AList.load1l tyOk rfl rfl rfl rfl rfl oM ?_; refine AList.move rfl rfl rfl ?_; refine AList.buildSt tyOk rfl rfl rfl rfl rfl rfl rfl rfl ?_; refine AList.litSl tyOk rfl rfl rfl rfl rfl rfl rfl rfl rfl rfl rfl ?_; refine AList.appL tyOk rfl rfl rfl rfl rfl rfl rfl rfl rfl rfl oM oM ?_; refine AList.assign rfl rfl rfl ?_; refine AList.nil ⟨by kernel_rfl, ?_⟩))
          refine ⟨(i + 1, L2 ++ [⟨d.1, d.2, (i : Int) - 4⟩]), ⟨by dsimp only; omega, by rw [hL2, alI_succ, List.append_assoc], by rw [hlen]; dsimp only; omega⟩, Wk.mk [(20, some 47)] rfl rfl rfl ?_ ?_, by dsimp only; omega⟩
          · repeat (first | exact trivial | refine ⟨⟨_, rfl, by first | exact LeA.c (LeC.refl _ rfl) | exact LeA.c (LeC.ow _ _ rfl) | exact LeA.c (LeC.pt _ _ _ _ _ rfl) | exact LeA.c (LeC.nil _ rfl) | exact LeA.c (LeC.nils _ _) | (refine LeA.int ?_; omega) | (refine LeA.int ?_; dsimp only; omega) | exact LeA.c (LeC.fz rfl rfl (by first | rfl | omega) (fun i _ j _ => ⟨rfl, by first | rfl | exact rowN_imm (fun _ => rfl) _ i j | exact rowF_imm (fun _ => rfl) _ i j⟩))⟩, ?_⟩)
          · rw [← hd]
            exact ⟨HeapOk.row rfl rfl (by simp) (row_snoc L2 (⟨(S.getD k mvZ).1, (S.getD k mvZ).2, (i : Int) - 4⟩ : Cl) clC_imm rfl), trivial⟩
        · obtain rfl : i = M := by omega
          repeat (first
            | refine AWp.seq ?_
            | refine thenA_n ?_
            | refine AWp.exit ?_
            | refine thenA_e ?_
            | refine inBlk_n ?_
            | refine inBlk_hit ?_
            | refine AWp.condF rfl (by first | rfl | assumption | exact cmF) ?_
            | (refine AWp.region (id := 6) ?_; refine AList.move rfl rfl rfl ?_; refine AList.add rfl rfl rfl rfl (by omega) (by omega) ?_; refine AList.assign rfl rfl rfl ?_; refine AList.nil ?_)
            | (refine AWp.region (id := 8) ?_; refine AList.move rfl rfl rfl ?_; refine AList.move rfl rfl rfl ?_; refine AList.cmpF rfl rfl rfl rfl rfl cmF ?_; refine AList.nil ?_))
          refine ⟨(k + 1, L2), ⟨by dsimp only; omega, by rw [hL2, htk], by dsimp only; rw [hl2, Nat.mul_succ]⟩, Wk.mk [(20, some 20)] rfl rfl rfl ?_ ?_, by dsimp only; omega⟩
          · repeat (first | exact trivial | refine ⟨⟨_, rfl, by first | exact LeA.c (LeC.refl _ rfl) | exact LeA.c (LeC.ow _ _ rfl) | exact LeA.c (LeC.pt _ _ _ _ _ rfl) | exact LeA.c (LeC.nil _ rfl) | exact LeA.c (LeC.nils _ _) | (refine LeA.int ?_; omega) | (refine LeA.int ?_; dsimp only; omega) | exact LeA.c (LeC.fz rfl rfl (by first | rfl | omega) (fun i _ j _ => ⟨rfl, by first | rfl | exact rowN_imm (fun _ => rfl) _ i j | exact rowF_imm (fun _ => rfl) _ i j⟩))⟩, ?_⟩)
          · repeat (first | exact trivial | refine ⟨by first | exact HeapOk.same rfl rfl rfl rfl | exact HeapOk.lent rfl rfl rfl rfl | exact HeapOk.nil rfl rfl | exact HeapOk.row rfl rfl (by first | rfl | omega) (fun i _ j _ => ⟨rfl, by first | rfl | exact rowN_imm (fun _ => rfl) _ i j | exact rowF_imm (fun _ => rfl) _ i j⟩) | exact HeapOk.box rfl rfl (by repeat (first | exact trivial | refine ⟨by first | exact LeC.refl _ rfl | exact LeC.ow _ _ rfl | exact LeC.nil _ rfl | exact LeC.nils _ _ | exact LeC.fz rfl rfl (by first | rfl | omega) (fun i _ j _ => ⟨rfl, by first | rfl | exact rowN_imm (fun _ => rfl) _ i j | exact rowF_imm (fun _ => rfl) _ i j⟩) | exact LeC.int (by omega), ?_⟩)) rfl, ?_⟩)
    · obtain rfl : k = n := by omega
      subst hL
      repeat (first
        | refine AWp.seq ?_
        | refine thenA_n ?_
        | refine AWp.exit ?_
        | refine AWp.ret ?_
        | refine AWp.condF rfl (by first | rfl | assumption | exact cmF) ?_
        | (refine AWp.region (id := 5) ?_; refine AList.move rfl rfl rfl ?_; refine AList.move rfl rfl rfl ?_; refine AList.lenLs tyOk rfl rfl rfl rfl rfl ?_; refine AList.cmpF rfl rfl rfl rfl rfl cmF ?_; refine AList.nil ?_)
        | (refine AWp.region (id := 11) ?_; refine AList.move rfl rfl rfl ?_; refine AList.assign rfl rfl rfl ?_; refine AList.nil ?_))
      refine ⟨mkSt 49 [(6, .c (.ls (AK (S.take k)).length 3 (rowF clC clZ (AK (S.take k)))))] [] [], [], Wk.mk [] rfl rfl rfl ?_ trivial, rfl, rfl, ARets.one (x := .c _) (ARes.tmp rfl rfl)⟩
      repeat (first | exact trivial | refine ⟨⟨_, rfl, by first | exact LeA.c (LeC.refl _ rfl) | exact LeA.c (LeC.ow _ _ rfl) | exact LeA.c (LeC.pt _ _ _ _ _ rfl) | exact LeA.c (LeC.nil _ rfl) | exact LeA.c (LeC.nils _ _) | (refine LeA.int ?_; omega) | (refine LeA.int ?_; dsimp only; omega) | exact LeA.c (LeC.fz rfl rfl (by first | rfl | omega) (fun i _ j _ => ⟨rfl, by first | rfl | exact rowN_imm (fun _ => rfl) _ i j | exact rowF_imm (fun _ => rfl) _ i j⟩))⟩, ?_⟩)
end Go.Proofs.Ytijaioiojclooaa
end

section
namespace Go.Proofs.Ytijaioiojclooaa
open Go.RowKit Go.Flow Go.AV Go.Plain
theorem al_len {w : Int} {x y : Bg} (hw : 0 ≤ w ∧ w ≤ 96) : 0 < (alL w x y).length ∧ (alL w x y).length ≤ 81 * 105 := by
  have hM : 1 ≤ alM w x y ∧ alM w x y ≤ 105 := by
    have h2 := stN_bd x y hw.1
    unfold alM
    omega
  obtain ⟨-, hm4⟩ := shN_eq x y
  have hl : (alL w x y).length = (shL (shN x y)).length * alM w x y := by
    unfold alL alK
    generalize shL (shN x y) = S
    induction S with
    | nil => simp
    | cons d S ih => rw [List.flatMap_cons, List.length_append, ih, alI_len, List.length_cons, Nat.succ_mul, Nat.add_comm]
  have hs1 : 1 ≤ (2 * shN x y + 1) * (2 * shN x y + 1) := Nat.mul_le_mul (show 1 ≤ 2 * shN x y + 1 by omega) (show 1 ≤ 2 * shN x y + 1 by omega)
  have hs2 : (2 * shN x y + 1) * (2 * shN x y + 1) ≤ 9 * 9 := Nat.mul_le_mul (show 2 * shN x y + 1 ≤ 9 by omega) (show 2 * shN x y + 1 ≤ 9 by omega)
  rw [hl, shL_len hm4]
  exact ⟨Nat.mul_pos hs1 hM.1, Nat.mul_le_mul hs2 hM.2⟩
set_option maxHeartbeats 2000000 in
set_option maxRecDepth 100000 in
theorem rConfused_A (a b : Bp) (x y : Bg) : ACalls Try.prog 14 [.ag (bpC a), .ag (bpC b), .ag (bgC x), .ag (bgC y)] (.tu [.ag (clC (cnfV a b x y).1), .c (bC (cnfV a b x y).2)]) := by
  have hCo := Comparable_A a b
  unfold cnfV
  by_cases hok : cmpOk a b
  · rw [if_pos hok]
    rw [decide_eq_true hok] at hCo
    obtain ⟨q0, q1, -, -, -⟩ := okB hok.1
    have hAll := All_A a.W x y ⟨q0, q1⟩
    have hlen := al_len (x := x) (y := y) ⟨q0, q1⟩
    have hbd := fun k hk => al_bd (x := x) (y := y) (k := k) ⟨q0, q1⟩ hk
    have hE : ∀ k, k < (alL a.W x y).length → ACalls Try.prog 37 [.ag (bpC a), .ag (bpC b), .ag (bgC x), .ag (bgC y), .ag (clC ((alL a.W x y).getD k clZ))] (.c (iC (xsV a b x y ((alL a.W x y).getD k clZ)))) := fun k hk => by
      have h1 := hbd k hk
      exact rExcess_A a b x y _ hok.1 hok.2.1 (by omega) (by omega) (by omega)
    clear hbd
    generalize alL a.W x y = L at *
    obtain ⟨n, hnl⟩ : ∃ n, L.length = n := ⟨_, rfl⟩
    rw [hnl] at hAll hlen hE
    refine acalls_at Try.func14 rfl rfl Try.ntmps14 rfl ?_
    repeat (first
      | refine AWp.seq ?_
      | refine thenA_n ?_
      | refine AWp.block ?_
      | refine AWp.skip ?_
      | refine AWp.condF rfl (by first | rfl | assumption | exact cmF) ?_
      | (refine AWp.region (id := 0) ?_; refine AList.box rfl rfl rfl rfl rfl ?_; refine AList.box rfl rfl rfl rfl rfl ?_; refine AList.box rfl rfl rfl rfl rfl ?_; refine AList.box rfl rfl rfl rfl rfl ?_; refine AList.alloc tyOk rfl rfl rfl rfl rfl ?_; refine AList.assign rfl rfl rfl ?_; refine AList.nil ?_)
      | (refine AWp.region (id := 1) ?_; refine AList.loadA tyOk rfl rfl rfl rfl rfl rfl rfl oM oM ?_; refine AList.loadA tyOk rfl rfl rfl rfl rfl rfl rfl oM oM ?_; refine AList.call rfl rfl rfl rfl Try.func35 rfl (by kernel_rfl) (hCo) ?_; refine AList.notB rfl rfl rfl ?_; refine AList.nil ?_)
      | (refine AWp.region (id := 3) ?_; refine AList.fieldPt tyOk rfl rfl rfl rfl rfl rfl rfl ?_; refine AList.load1 tyOk rfl rfl rfl rfl rfl rfl rfl oM oM ?_; refine AList.loadA tyOk rfl rfl rfl rfl rfl rfl rfl oM oM ?_; refine AList.loadA tyOk rfl rfl rfl rfl rfl rfl rfl oM oM ?_; refine AList.call rfl rfl rfl rfl Try.func36 rfl (by kernel_rfl) (hAll) ?_; refine AList.assign rfl rfl rfl ?_; refine AList.nil ?_)
      | (refine AWp.region (id := 4) ?_; refine AList.assign rfl rfl rfl ?_; refine AList.nil ?_))
    refine AWp.round (fun k : Nat => mkSt 43 [(4, .c (.pt 4 3 0 0)), (5, .c (.pt 5 3 0 0)), (6, .c (.pt 6 4 0 0)), (7, .c (.pt 7 4 0 0)), (8, .c (.pt 8 3 0 0)), (10, .c (.ls n 3 (rowF clC clZ L))), (11, .c (iC k))] [(4, ⟨false, 1, 3, 27, lF (bpC a)⟩), (5, ⟨false, 1, 3, 27, lF (bpC b)⟩), (6, ⟨false, 1, 4, 29, lF (bgC x)⟩), (7, ⟨false, 1, 4, 29, lF (bgC y)⟩), (8, ⟨false, 1, 3, 40, lF (clC clZ)⟩)] [4, 5, 6, 7, 8])
      (fun k => k ≤ n ∧ ∀ i, i < k → hitC a b x y (L.getD i clZ) = false) (fun k => n - k) 0 ⟨Nat.zero_le _, fun _ h => absurd h (Nat.not_lt_zero _)⟩ ?_ (fun k hk => ?_)
    · refine Wk.mk [(4, some 4), (5, some 5), (6, some 6), (7, some 7), (8, some 8)] rfl rfl rfl ?_ ?_
      · repeat (first | exact trivial | refine ⟨⟨_, rfl, by first | exact LeA.c (LeC.refl _ rfl) | exact LeA.c (LeC.ow _ _ rfl) | exact LeA.c (LeC.pt _ _ _ _ _ rfl) | exact LeA.c (LeC.nil _ rfl) | exact LeA.c (LeC.nils _ _) | (refine LeA.int ?_; omega) | (refine LeA.int ?_; dsimp only; omega) | exact LeA.c (LeC.fz rfl rfl (by first | rfl | omega) (fun i _ j _ => ⟨rfl, by first | rfl | exact rowN_imm (fun _ => rfl) _ i j | exact rowF_imm (fun _ => rfl) _ i j⟩))⟩, ?_⟩)
      · repeat (first | exact trivial | refine ⟨by first | exact HeapOk.same rfl rfl rfl rfl | exact HeapOk.lent rfl rfl rfl rfl | exact HeapOk.nil rfl rfl | exact HeapOk.row rfl rfl (by first | rfl | omega) (fun i _ j _ => ⟨rfl, by first | rfl | exact rowN_imm (fun _ => rfl) _ i j | exact rowF_imm (fun _ => rfl) _ i j⟩) | exact HeapOk.box rfl rfl (by repeat (first | exact trivial | refine ⟨by first | exact LeC.refl _ rfl | exact LeC.ow _ _ rfl | exact LeC.nil _ rfl | exact LeC.nils _ _ | exact LeC.fz rfl rfl (by first | rfl | omega) (fun i _ j _ => ⟨rfl, by first | rfl | exact rowN_imm (fun _ => rfl) _ i j | exact rowF_imm (fun _ => rfl) _ i j⟩) | exact LeC.int (by omega), ?_⟩)) rfl, ?_⟩)
    · obtain ⟨hk, hno⟩ := hk
      by_cases hkn : k < n
      · have hEk := hE k hkn
        by_cases hx : xsV a b x y (L.getD k clZ) ≤ 0
        · rw [cnfR_hit (find_at (by rw [hnl]; exact hkn) (decide_eq_true hx) hno)]
          repeat (first
            | refine AWp.seq ?_
            | refine thenA_n ?_
            | refine AWp.block ?_
            | refine AWp.skip ?_
            | refine AWp.ret ?_
            | refine thenA_r ?_
            | refine inBlk_r ?_
            | refine AWp.condT rfl (by first | rfl | assumption | exact cmT) ?_
            | (refine AWp.region (id := 5) ?_; refine AList.move rfl rfl rfl ?_; refine AList.move rfl rfl rfl ?_; refine AList.lenLs tyOk rfl rfl rfl rfl rfl ?_; refine AList.cmpT rfl rfl rfl rfl rfl cmT ?_; refine AList.nil ?_)
            | (refine AWp.draw (id := 7) mixed ?_; refine AList.loadA tyOk rfl rfl rfl rfl rfl rfl rfl oM oM ?_; refine AList.loadA tyOk rfl rfl rfl rfl rfl rfl rfl oM oM ?_; refine AList.loadA tyOk rfl rfl rfl rfl rfl rfl rfl oM oM ?_; refine AList.loadA tyOk rfl rfl rfl rfl rfl rfl rfl oM oM ?_; refine AList.move rfl rfl rfl ?_; refine AList.move rfl rfl rfl ?_; refine AList.idx (k := k) tyOk rfl rfl rfl rfl rfl rfl rfl rfl (by first | rfl | omega) oM oM ?_; refine AList.loadAl tyOk rfl rfl rfl rfl rfl oM ?_; refine AList.call rfl rfl rfl rfl Try.func37 rfl (by kernel_rfl) (hEk) ?_; refine AList.cmpT rfl rfl rfl rfl rfl cmT ?_; refine AList.nil ⟨by kernel_rfl, ?_⟩)
            | (refine AWp.region (id := 8) ?_; refine AList.move rfl rfl rfl ?_; refine AList.move rfl rfl rfl ?_; refine AList.idx (k := k) tyOk rfl rfl rfl rfl rfl rfl rfl rfl (by first | rfl | omega) oM oM ?_; refine AList.loadAl tyOk rfl rfl rfl rfl rfl oM ?_; refine AList.store tyOk rfl rfl rfl rfl rfl rfl rfl rfl oM oM ?_; refine AList.assign rfl rfl rfl ?_; refine AList.nil ?_))
          refine ⟨mkSt 43 [(8, .c (.pt 8 3 0 0)), (9, .c (bC true))] [(8, ⟨false, 1, 3, 40, lF (clC (L.getD k clZ))⟩)] [8], [(8, ⟨false, 1, 3, 40, lF (clC (L.getD k clZ))⟩)], Wk.mk [(8, some 8)] rfl rfl rfl ?_ ?_, rfl, rfl, ARets.two (x := .ag _) (y := .c _) (ARes.box tyOk rfl rfl rfl rfl rfl rfl rfl) (ARes.tmp rfl rfl)⟩
          · repeat (first | exact trivial | refine ⟨⟨_, rfl, by first | exact LeA.c (LeC.refl _ rfl) | exact LeA.c (LeC.ow _ _ rfl) | exact LeA.c (LeC.pt _ _ _ _ _ rfl) | exact LeA.c (LeC.nil _ rfl) | exact LeA.c (LeC.nils _ _) | (refine LeA.int ?_; omega) | (refine LeA.int ?_; dsimp only; omega) | exact LeA.c (LeC.fz rfl rfl (by first | rfl | omega) (fun i _ j _ => ⟨rfl, by first | rfl | exact rowN_imm (fun _ => rfl) _ i j | exact rowF_imm (fun _ => rfl) _ i j⟩))⟩, ?_⟩)
          · repeat (first | exact trivial | refine ⟨by first | exact HeapOk.same rfl rfl rfl rfl | exact HeapOk.lent rfl rfl rfl rfl | exact HeapOk.nil rfl rfl | exact HeapOk.row rfl rfl (by first | rfl | omega) (fun i _ j _ => ⟨rfl, by first | rfl | exact rowN_imm (fun _ => rfl) _ i j | exact rowF_imm (fun _ => rfl) _ i j⟩) | exact HeapOk.box rfl rfl (by repeat (first | exact trivial | refine ⟨by first | exact LeC.refl _ rfl | exact LeC.ow _ _ rfl | exact LeC.nil _ rfl | exact LeC.nils _ _ | exact LeC.fz rfl rfl (by first | rfl | omega) (fun i _ j _ => ⟨rfl, by first | rfl | exact rowN_imm (fun _ => rfl) _ i j | exact rowF_imm (fun _ => rfl) _ i j⟩) | exact LeC.int (by omega), ?_⟩)) rfl, ?_⟩)
        · repeat (first
            | refine AWp.seq ?_
            | refine thenA_n ?_
            | refine AWp.block ?_
            | refine AWp.skip ?_
            | refine inBlk_n ?_
            | refine AWp.condT rfl (by first | rfl | assumption | exact cmT) ?_
            | refine AWp.condF rfl (by first | rfl | assumption | exact cmF) ?_
            | (refine AWp.region (id := 5) ?_; refine AList.move rfl rfl rfl ?_; refine AList.move rfl rfl rfl ?_; refine AList.lenLs tyOk rfl rfl rfl rfl rfl ?_; refine AList.cmpT rfl rfl rfl rfl rfl cmT ?_; refine AList.nil ?_)
            | (refine AWp.region (id := 6) ?_; refine AList.move rfl rfl rfl ?_; refine AList.add rfl rfl rfl rfl (by omega) (by omega) ?_; refine AList.assign rfl rfl rfl ?_; refine AList.nil ?_)
            | (refine AWp.draw (id := 7) mixed ?_; refine AList.loadA tyOk rfl rfl rfl rfl rfl rfl rfl oM oM ?_; refine AList.loadA tyOk rfl rfl rfl rfl rfl rfl rfl oM oM ?_; refine AList.loadA tyOk rfl rfl rfl rfl rfl rfl rfl oM oM ?_; refine AList.loadA tyOk rfl rfl rfl rfl rfl rfl rfl oM oM ?_; refine AList.move rfl rfl rfl ?_; refine AList.move rfl rfl rfl ?_; refine AList.idx (k := k) tyOk rfl rfl rfl rfl rfl rfl rfl rfl (by first | rfl | omega) oM oM ?_; refine AList.loadAl tyOk rfl rfl rfl rfl rfl oM ?_; refine AList.call rfl rfl rfl rfl Try.func37 rfl (by kernel_rfl) (hEk) ?_; refine AList.cmpF rfl rfl rfl rfl rfl cmF ?_; refine AList.nil ⟨by kernel_rfl, ?_⟩))
          refine ⟨k + 1, ⟨hkn, fun i hi => ?_⟩, Wk.mk [(4, some 4), (5, some 5), (6, some 6), (7, some 7), (8, some 8)] rfl rfl rfl ?_ ?_, by omega⟩
          · by_cases e : i = k
            · rw [e]; exact decide_eq_false hx
            · exact hno i (by omega)
          · repeat (first | exact trivial | refine ⟨⟨_, rfl, by first | exact LeA.c (LeC.refl _ rfl) | exact LeA.c (LeC.ow _ _ rfl) | exact LeA.c (LeC.pt _ _ _ _ _ rfl) | exact LeA.c (LeC.nil _ rfl) | exact LeA.c (LeC.nils _ _) | (refine LeA.int ?_; omega) | (refine LeA.int ?_; dsimp only; omega) | exact LeA.c (LeC.fz rfl rfl (by first | rfl | omega) (fun i _ j _ => ⟨rfl, by first | rfl | exact rowN_imm (fun _ => rfl) _ i j | exact rowF_imm (fun _ => rfl) _ i j⟩))⟩, ?_⟩)
          · repeat (first | exact trivial | refine ⟨by first | exact HeapOk.same rfl rfl rfl rfl | exact HeapOk.lent rfl rfl rfl rfl | exact HeapOk.nil rfl rfl | exact HeapOk.row rfl rfl (by first | rfl | omega) (fun i _ j _ => ⟨rfl, by first | rfl | exact rowN_imm (fun _ => rfl) _ i j | exact rowF_imm (fun _ => rfl) _ i j⟩) | exact HeapOk.box rfl rfl (by repeat (first | exact trivial | refine ⟨by first | exact LeC.refl _ rfl | exact LeC.ow _ _ rfl | exact LeC.nil _ rfl | exact LeC.nils _ _ | exact LeC.fz rfl rfl (by first | rfl | omega) (fun i _ j _ => ⟨rfl, by first | rfl | exact rowN_imm (fun _ => rfl) _ i j | exact rowF_imm (fun _ => rfl) _ i j⟩) | exact LeC.int (by omega), ?_⟩)) rfl, ?_⟩)
      · obtain rfl : k = n := by omega
        rw [cnfR_no (find_no (fun i hi => hno i (by rw [← hnl]; exact hi)))]
        repeat (first
          | refine AWp.seq ?_
          | refine thenA_n ?_
          | refine AWp.exit ?_
          | refine AWp.ret ?_
          | refine AWp.condF rfl (by first | rfl | assumption | exact cmF) ?_
          | (refine AWp.region (id := 5) ?_; refine AList.move rfl rfl rfl ?_; refine AList.move rfl rfl rfl ?_; refine AList.lenLs tyOk rfl rfl rfl rfl rfl ?_; refine AList.cmpF rfl rfl rfl rfl rfl cmF ?_; refine AList.nil ?_)
          | (refine AWp.region (id := 9) ?_; refine AList.buildSt tyOk rfl rfl rfl rfl rfl rfl rfl rfl ?_; refine AList.store tyOk rfl rfl rfl rfl rfl rfl rfl rfl oM oM ?_; refine AList.assign rfl rfl rfl ?_; refine AList.nil ?_))
        refine ⟨mkSt 43 [(8, .c (.pt 8 3 0 0)), (9, .c (bC false))] [(8, ⟨false, 1, 3, 40, lF (clC (clZ))⟩)] [8], [(8, ⟨false, 1, 3, 40, lF (clC (clZ))⟩)], Wk.mk [(8, some 8)] rfl rfl rfl ?_ ?_, rfl, rfl, ARets.two (x := .ag _) (y := .c _) (ARes.box tyOk rfl rfl rfl rfl rfl rfl rfl) (ARes.tmp rfl rfl)⟩
        · repeat (first | exact trivial | refine ⟨⟨_, rfl, by first | exact LeA.c (LeC.refl _ rfl) | exact LeA.c (LeC.ow _ _ rfl) | exact LeA.c (LeC.pt _ _ _ _ _ rfl) | exact LeA.c (LeC.nil _ rfl) | exact LeA.c (LeC.nils _ _) | (refine LeA.int ?_; omega) | (refine LeA.int ?_; dsimp only; omega) | exact LeA.c (LeC.fz rfl rfl (by first | rfl | omega) (fun i _ j _ => ⟨rfl, by first | rfl | exact rowN_imm (fun _ => rfl) _ i j | exact rowF_imm (fun _ => rfl) _ i j⟩))⟩, ?_⟩)
        · repeat (first | exact trivial | refine ⟨by first | exact HeapOk.same rfl rfl rfl rfl | exact HeapOk.lent rfl rfl rfl rfl | exact HeapOk.nil rfl rfl | exact HeapOk.row rfl rfl (by first | rfl | omega) (fun i _ j _ => ⟨rfl, by first | rfl | exact rowN_imm (fun _ => rfl) _ i j | exact rowF_imm (fun _ => rfl) _ i j⟩) | exact HeapOk.box rfl rfl (by repeat (first | exact trivial | refine ⟨by first | exact LeC.refl _ rfl | exact LeC.ow _ _ rfl | exact LeC.nil _ rfl | exact LeC.nils _ _ | exact LeC.fz rfl rfl (by first | rfl | omega) (fun i _ j _ => ⟨rfl, by first | rfl | exact rowN_imm (fun _ => rfl) _ i j | exact rowF_imm (fun _ => rfl) _ i j⟩) | exact LeC.int (by omega), ?_⟩)) rfl, ?_⟩)
  · rw [if_neg hok]
    rw [decide_eq_false hok] at hCo
    refine acalls_at Try.func14 rfl rfl Try.ntmps14 rfl ?_
    repeat (first
      | refine AWp.seq ?_
      | refine thenA_n ?_
      | refine AWp.ret ?_
      | refine thenA_r ?_
      | refine AWp.condT rfl (by first | rfl | assumption | exact cmT) ?_
      | (refine AWp.region (id := 0) ?_; refine AList.box rfl rfl rfl rfl rfl ?_; refine AList.box rfl rfl rfl rfl rfl ?_; refine AList.box rfl rfl rfl rfl rfl ?_; refine AList.box rfl rfl rfl rfl rfl ?_; refine AList.alloc tyOk rfl rfl rfl rfl rfl ?_; refine AList.assign rfl rfl rfl ?_; refine AList.nil ?_)
      | (refine AWp.region (id := 1) ?_; refine AList.loadA tyOk rfl rfl rfl rfl rfl rfl rfl oM oM ?_; refine AList.loadA tyOk rfl rfl rfl rfl rfl rfl rfl oM oM ?_; refine AList.call rfl rfl rfl rfl Try.func35 rfl (by kernel_rfl) (hCo) ?_; refine AList.notB rfl rfl rfl ?_; refine AList.nil ?_)
      | (refine AWp.region (id := 2) ?_; refine AList.buildSt tyOk rfl rfl rfl rfl rfl rfl rfl rfl ?_; refine AList.store tyOk rfl rfl rfl rfl rfl rfl rfl rfl oM oM ?_; refine AList.assign rfl rfl rfl ?_; refine AList.nil ?_))
    refine ⟨mkSt 43 [(8, .c (.pt 8 3 0 0)), (9, .c (bC false))] [(8, ⟨false, 1, 3, 40, lF (clC (clZ))⟩)] [8], [(8, ⟨false, 1, 3, 40, lF (clC (clZ))⟩)], Wk.mk [(8, some 8)] rfl rfl rfl ?_ ?_, rfl, rfl, ARets.two (x := .ag _) (y := .c _) (ARes.box tyOk rfl rfl rfl rfl rfl rfl rfl) (ARes.tmp rfl rfl)⟩
    · repeat (first | exact trivial | refine ⟨⟨_, rfl, by first | exact LeA.c (LeC.refl _ rfl) | exact LeA.c (LeC.ow _ _ rfl) | exact LeA.c (LeC.pt _ _ _ _ _ rfl) | exact LeA.c (LeC.nil _ rfl) | exact LeA.c (LeC.nils _ _) | (refine LeA.int ?_; omega) | (refine LeA.int ?_; dsimp only; omega) | exact LeA.c (LeC.fz rfl rfl (by first | rfl | omega) (fun i _ j _ => ⟨rfl, by first | rfl | exact rowN_imm (fun _ => rfl) _ i j | exact rowF_imm (fun _ => rfl) _ i j⟩))⟩, ?_⟩)
    · repeat (first | exact trivial | refine ⟨by first | exact HeapOk.same rfl rfl rfl rfl | exact HeapOk.lent rfl rfl rfl rfl | exact HeapOk.nil rfl rfl | exact HeapOk.row rfl rfl (by first | rfl | omega) (fun i _ j _ => ⟨rfl, by first | rfl | exact rowN_imm (fun _ => rfl) _ i j | exact rowF_imm (fun _ => rfl) _ i j⟩) | exact HeapOk.box rfl rfl (by repeat (first | exact trivial | refine ⟨by first | exact LeC.refl _ rfl | exact LeC.ow _ _ rfl | exact LeC.nil _ rfl | exact LeC.nils _ _ | exact LeC.fz rfl rfl (by first | rfl | omega) (fun i _ j _ => ⟨rfl, by first | rfl | exact rowN_imm (fun _ => rfl) _ i j | exact rowF_imm (fun _ => rfl) _ i j⟩) | exact LeC.int (by omega), ?_⟩)) rfl, ?_⟩)
end Go.Proofs.Ytijaioiojclooaa
end
