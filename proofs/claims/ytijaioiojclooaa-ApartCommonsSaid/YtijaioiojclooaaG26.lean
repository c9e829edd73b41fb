/- Parts of the proof: A24w. -/
import Derived.Test.YtijaioiojclooaaG25
set_option linter.unusedSimpArgs false
set_option linter.unusedVariables false
section
namespace Go.Proofs.Ytijaioiojclooaa
open Go.RowKit Go.Flow Go.AV Go.Plain
/-- The pair, with how many dots may still be lost. -/
abbrev prB (a b : Bp) (x y : Bg) (l m : Int) : AB := ⟨false, 1, 14, 80, lF [iC a.W, iC a.H, .ls a.n 1 (bF a.d), iC b.W, iC b.H, .ls b.n 1 (bF b.d), iC l, iC (lim4 x).bl, iC (lim4 x).sh, iC (lim4 x).st, iC m, iC (lim4 y).bl, iC (lim4 y).sh, iC (lim4 y).st]⟩
set_option maxRecDepth 100000 in
theorem loseX0 (a b : Bp) (x y : Bg) (l m : Int) (hl : 0 ≤ l ∧ l ≤ 200) (hm : 0 ≤ m ∧ m ≤ 200) (h : l = 0) :
    HCalls Try.prog 49 [.c (.pt 1000 14 0 6)] [(1000, prB a b x y l m)] (.c (iC 1)) [(1000, prB a b x y (l) (m))] := by
  refine hcalls_at2 Try.func49 rfl rfl Try.ntmps49 rfl rfl (fun p hp => by cases hp with | head => exact fun k j _ _ => fixC_imm (lF_imm rfl k j) | tail _ h => cases h) ?_
  repeat (first
    | refine AWp.seq ?_
    | refine thenA_n ?_
    | refine AWp.ret ?_
    | refine thenA_r ?_
    | refine AWp.condT rfl (by first | rfl | assumption | exact cmT) ?_
    | (refine AWp.region (id := 0) ?_; refine AList.assign rfl rfl rfl ?_; refine AList.nil ?_)
    | (refine AWp.region (id := 1) ?_; refine AList.move rfl rfl rfl ?_; refine AList.nilPt rfl rfl rfl rfl ?_; refine AList.load1 tyOk rfl rfl rfl rfl rfl rfl rfl oM oM ?_; refine AList.cmpT rfl rfl rfl rfl rfl cmT ?_; refine AList.nil ?_)
    | (refine AWp.region (id := 2) ?_; refine AList.assign rfl rfl rfl ?_; refine AList.nil ?_))
  refine ⟨mkL 12 1 [(2, .c (iC 1))] [(1000, prB a b x y (l) (m))] [], [], Wk.mkL [] rfl rfl rfl rfl rfl ?_ ?_, rfl, rfl, ARets.one (x := .c _) (ARes.tmp rfl rfl)⟩
  · repeat (first | exact trivial | refine ⟨⟨_, rfl, by first | exact LeA.c (LeC.refl _ rfl) | exact LeA.c (LeC.ow _ _ rfl) | exact LeA.c (LeC.pt _ _ _ _ _ rfl) | exact LeA.c (LeC.nil _ rfl) | exact LeA.c (LeC.nils _ _) | (refine LeA.int ?_; omega) | (refine LeA.int ?_; dsimp only; omega) | exact LeA.c (LeC.fz rfl rfl (by first | rfl | omega) (fun i _ j _ => ⟨rfl, by first | rfl | exact rowN_imm (fun _ => rfl) _ i j | exact rowF_imm (fun _ => rfl) _ i j⟩))⟩, ?_⟩)
  · exact ⟨HeapOk.lent rfl rfl rfl rfl, trivial⟩
set_option maxRecDepth 100000 in
theorem loseX1 (a b : Bp) (x y : Bg) (l m : Int) (hl : 0 ≤ l ∧ l ≤ 200) (hm : 0 ≤ m ∧ m ≤ 200) (h : ¬ l = 0) :
    HCalls Try.prog 49 [.c (.pt 1000 14 0 6)] [(1000, prB a b x y l m)] (.c (iC 0)) [(1000, prB a b x y (l - 1) (m))] := by
  refine hcalls_at2 Try.func49 rfl rfl Try.ntmps49 rfl rfl (fun p hp => by cases hp with | head => exact fun k j _ _ => fixC_imm (lF_imm rfl k j) | tail _ h => cases h) ?_
  repeat (first
    | refine AWp.seq ?_
    | refine thenA_n ?_
    | refine AWp.skip ?_
    | refine AWp.ret ?_
    | refine AWp.condF rfl (by first | rfl | assumption | exact cmF) ?_
    | (refine AWp.region (id := 0) ?_; refine AList.assign rfl rfl rfl ?_; refine AList.nil ?_)
    | (refine AWp.region (id := 1) ?_; refine AList.move rfl rfl rfl ?_; refine AList.nilPt rfl rfl rfl rfl ?_; refine AList.load1 tyOk rfl rfl rfl rfl rfl rfl rfl oM oM ?_; refine AList.cmpF rfl rfl rfl rfl rfl cmF ?_; refine AList.nil ?_)
    | (refine AWp.region (id := 3) ?_; refine AList.move rfl rfl rfl ?_; refine AList.nilPt rfl rfl rfl rfl ?_; refine AList.load1 tyOk rfl rfl rfl rfl rfl rfl rfl oM oM ?_; refine AList.sub rfl rfl rfl rfl (by omega) (by omega) ?_; refine AList.nilPt rfl rfl rfl rfl ?_; refine AList.store tyOk rfl rfl rfl rfl rfl rfl rfl rfl oM oM ?_; refine AList.nil ?_)
    | (refine AWp.region (id := 4) ?_; refine AList.assign rfl rfl rfl ?_; refine AList.nil ?_))
  refine ⟨mkL 12 1 [(2, .c (iC 0))] [(1000, prB a b x y (l - 1) (m))] [], [], Wk.mkL [] rfl rfl rfl rfl rfl ?_ ?_, rfl, rfl, ARets.one (x := .c _) (ARes.tmp rfl rfl)⟩
  · repeat (first | exact trivial | refine ⟨⟨_, rfl, by first | exact LeA.c (LeC.refl _ rfl) | exact LeA.c (LeC.ow _ _ rfl) | exact LeA.c (LeC.pt _ _ _ _ _ rfl) | exact LeA.c (LeC.nil _ rfl) | exact LeA.c (LeC.nils _ _) | (refine LeA.int ?_; omega) | (refine LeA.int ?_; dsimp only; omega) | exact LeA.c (LeC.fz rfl rfl (by first | rfl | omega) (fun i _ j _ => ⟨rfl, by first | rfl | exact rowN_imm (fun _ => rfl) _ i j | exact rowF_imm (fun _ => rfl) _ i j⟩))⟩, ?_⟩)
  · exact ⟨HeapOk.lent rfl rfl rfl rfl, trivial⟩
set_option maxRecDepth 100000 in
theorem loseY0 (a b : Bp) (x y : Bg) (l m : Int) (hl : 0 ≤ l ∧ l ≤ 200) (hm : 0 ≤ m ∧ m ≤ 200) (h : m = 0) :
    HCalls Try.prog 49 [.c (.pt 1000 14 0 10)] [(1000, prB a b x y l m)] (.c (iC 1)) [(1000, prB a b x y (l) (m))] := by
  refine hcalls_at2 Try.func49 rfl rfl Try.ntmps49 rfl rfl (fun p hp => by cases hp with | head => exact fun k j _ _ => fixC_imm (lF_imm rfl k j) | tail _ h => cases h) ?_
  repeat (first
    | refine AWp.seq ?_
    | refine thenA_n ?_
    | refine AWp.ret ?_
    | refine thenA_r ?_
    | refine AWp.condT rfl (by first | rfl | assumption | exact cmT) ?_
    | (refine AWp.region (id := 0) ?_; refine AList.assign rfl rfl rfl ?_; refine AList.nil ?_)
    | (refine AWp.region (id := 1) ?_; refine AList.move rfl rfl rfl ?_; refine AList.nilPt rfl rfl rfl rfl ?_; refine AList.load1 tyOk rfl rfl rfl rfl rfl rfl rfl oM oM ?_; refine AList.cmpT rfl rfl rfl rfl rfl cmT ?_; refine AList.nil ?_)
    | (refine AWp.region (id := 2) ?_; refine AList.assign rfl rfl rfl ?_; refine AList.nil ?_))
  refine ⟨mkL 12 1 [(2, .c (iC 1))] [(1000, prB a b x y (l) (m))] [], [], Wk.mkL [] rfl rfl rfl rfl rfl ?_ ?_, rfl, rfl, ARets.one (x := .c _) (ARes.tmp rfl rfl)⟩
  · repeat (first | exact trivial | refine ⟨⟨_, rfl, by first | exact LeA.c (LeC.refl _ rfl) | exact LeA.c (LeC.ow _ _ rfl) | exact LeA.c (LeC.pt _ _ _ _ _ rfl) | exact LeA.c (LeC.nil _ rfl) | exact LeA.c (LeC.nils _ _) | (refine LeA.int ?_; omega) | (refine LeA.int ?_; dsimp only; omega) | exact LeA.c (LeC.fz rfl rfl (by first | rfl | omega) (fun i _ j _ => ⟨rfl, by first | rfl | exact rowN_imm (fun _ => rfl) _ i j | exact rowF_imm (fun _ => rfl) _ i j⟩))⟩, ?_⟩)
  · exact ⟨HeapOk.lent rfl rfl rfl rfl, trivial⟩
set_option maxRecDepth 100000 in
theorem loseY1 (a b : Bp) (x y : Bg) (l m : Int) (hl : 0 ≤ l ∧ l ≤ 200) (hm : 0 ≤ m ∧ m ≤ 200) (h : ¬ m = 0) :
    HCalls Try.prog 49 [.c (.pt 1000 14 0 10)] [(1000, prB a b x y l m)] (.c (iC 0)) [(1000, prB a b x y (l) (m - 1))] := by
  refine hcalls_at2 Try.func49 rfl rfl Try.ntmps49 rfl rfl (fun p hp => by cases hp with | head => exact fun k j _ _ => fixC_imm (lF_imm rfl k j) | tail _ h => cases h) ?_
  repeat (first
    | refine AWp.seq ?_
    | refine thenA_n ?_
    | refine AWp.skip ?_
    | refine AWp.ret ?_
    | refine AWp.condF rfl (by first | rfl | assumption | exact cmF) ?_
    | (refine AWp.region (id := 0) ?_; refine AList.assign rfl rfl rfl ?_; refine AList.nil ?_)
    | (refine AWp.region (id := 1) ?_; refine AList.move rfl rfl rfl ?_; refine AList.nilPt rfl rfl rfl rfl ?_; refine AList.load1 tyOk rfl rfl rfl rfl rfl rfl rfl oM oM ?_; refine AList.cmpF rfl rfl rfl rfl rfl cmF ?_; refine AList.nil ?_)
    | (refine AWp.region (id := 3) ?_; refine AList.move rfl rfl rfl ?_; refine AList.nilPt rfl rfl rfl rfl ?_; refine AList.load1 tyOk rfl rfl rfl rfl rfl rfl rfl oM oM ?_; refine AList.sub rfl rfl rfl rfl (by omega) (by omega) ?_; refine AList.nilPt rfl rfl rfl rfl ?_; refine AList.store tyOk rfl rfl rfl rfl rfl rfl rfl rfl oM oM ?_; refine AList.nil ?_)
    | (refine AWp.region (id := 4) ?_; refine AList.assign rfl rfl rfl ?_; refine AList.nil ?_))
  refine ⟨mkL 12 1 [(2, .c (iC 0))] [(1000, prB a b x y (l) (m - 1))] [], [], Wk.mkL [] rfl rfl rfl rfl rfl ?_ ?_, rfl, rfl, ARets.one (x := .c _) (ARes.tmp rfl rfl)⟩
  · repeat (first | exact trivial | refine ⟨⟨_, rfl, by first | exact LeA.c (LeC.refl _ rfl) | exact LeA.c (LeC.ow _ _ rfl) | exact LeA.c (LeC.pt _ _ _ _ _ rfl) | exact LeA.c (LeC.nil _ rfl) | exact LeA.c (LeC.nils _ _) | (refine LeA.int ?_; omega) | (refine LeA.int ?_; dsimp only; omega) | exact LeA.c (LeC.fz rfl rfl (by first | rfl | omega) (fun i _ j _ => ⟨rfl, by first | rfl | exact rowN_imm (fun _ => rfl) _ i j | exact rowF_imm (fun _ => rfl) _ i j⟩))⟩, ?_⟩)
  · exact ⟨HeapOk.lent rfl rfl rfl rfl, trivial⟩
set_option maxHeartbeats 4000000 in
set_option maxRecDepth 100000 in
theorem Common_A (a b : Bp) (x y : Bg) (c : Cl) : ACalls Try.prog 19 [.ag (bpC a), .ag (bpC b), .ag (bgC x), .ag (bgC y), .ag (clC c)] (.tu [.ag (ipC (cmV a b x y c).1), .c (iC (cmV a b x y c).2)]) := by
  have hCa := bCheck_A a.W a.H a.n a.d
  have hCb := bCheck_A b.W b.H b.n b.d
  have hCo := alike_A a b
  have hOr := Or_A (chk a.W a.H a.n) (chk b.W b.H b.n)
  unfold cmV
  by_cases ha : chk a.W a.H a.n = 0
  case neg =>
    rw [if_pos ha]
    rw [if_neg ha] at hOr
    obtain ⟨ea, hea⟩ : ∃ e, chk a.W a.H a.n = e := ⟨_, rfl⟩
    rw [hea] at hCa hOr ha ⊢
    refine acalls_at Try.func19 rfl rfl Try.ntmps19 rfl ?_
    repeat (first
      | refine AWp.seq ?_
      | refine thenA_n ?_
      | refine AWp.ret ?_
      | refine thenA_r ?_
      | refine AWp.condT rfl (by first | rfl | assumption | exact cmT) ?_
      | (refine AWp.region (id := 0) ?_; refine AList.box rfl rfl rfl rfl rfl ?_; refine AList.box rfl rfl rfl rfl rfl ?_; refine AList.box rfl rfl rfl rfl rfl ?_; refine AList.box rfl rfl rfl rfl rfl ?_; refine AList.box rfl rfl rfl rfl rfl ?_; refine AList.alloc tyOk rfl rfl rfl rfl rfl ?_; refine AList.assign rfl rfl rfl ?_; refine AList.nil ?_)
      | (refine AWp.draw (id := 1) mixed ?_; refine AList.loadA tyOk rfl rfl rfl rfl rfl rfl rfl oM oM ?_; refine AList.call rfl rfl rfl rfl Try.func45 rfl (by kernel_rfl) (hCa) ?_; refine AList.loadA tyOk rfl rfl rfl rfl rfl rfl rfl oM oM ?_; refine AList.call rfl rfl rfl rfl Try.func45 rfl (by kernel_rfl) (hCb) ?_; refine AList.litSl tyOk rfl rfl rfl rfl rfl rfl rfl rfl rfl rfl rfl ?_; refine AList.call rfl rfl rfl rfl Try.func44 rfl (by kernel_rfl) (hOr) ?_; refine AList.assign rfl rfl rfl ?_; refine AList.nil ⟨by kernel_rfl, ?_⟩)
      | (refine AWp.region (id := 2) ?_; refine AList.move rfl rfl rfl ?_; refine AList.cmpT rfl rfl rfl rfl rfl cmT ?_; refine AList.nil ?_)
      | (refine AWp.region (id := 3) ?_; refine AList.buildSt tyOk rfl rfl rfl rfl rfl rfl rfl rfl ?_; refine AList.move rfl rfl rfl ?_; refine AList.store tyOk rfl rfl rfl rfl rfl rfl rfl rfl oM oM ?_; refine AList.assign rfl rfl rfl ?_; refine AList.nil ?_))
    refine ⟨mkSt 176 [(10, .c (.pt 10 3 0 0)), (11, .c (iC ea))] [(10, ⟨false, 1, 3, 52, lF (ipC (ipZ))⟩)] [10], [(10, ⟨false, 1, 3, 52, lF (ipC (ipZ))⟩)], Wk.mk [(10, some 10)] rfl rfl rfl ?_ ?_, rfl, rfl, ARets.two (x := .ag _) (y := .c _) (ARes.box tyOk rfl rfl rfl rfl rfl rfl rfl) (ARes.tmp rfl rfl)⟩
    · repeat (first | exact trivial | refine ⟨⟨_, rfl, by first | exact LeA.c (LeC.refl _ rfl) | exact LeA.c (LeC.ow _ _ rfl) | exact LeA.c (LeC.pt _ _ _ _ _ rfl) | exact LeA.c (LeC.nil _ rfl) | exact LeA.c (LeC.nils _ _) | (refine LeA.int ?_; omega) | (refine LeA.int ?_; dsimp only; omega) | exact LeA.c (LeC.fz rfl rfl (by first | rfl | omega) (fun i _ j _ => ⟨rfl, by first | rfl | exact rowN_imm (fun _ => rfl) _ i j | exact rowF_imm (fun _ => rfl) _ i j⟩))⟩, ?_⟩)
    · repeat (first | exact trivial | refine ⟨by first | exact HeapOk.same rfl rfl rfl rfl | exact HeapOk.lent rfl rfl rfl rfl | exact HeapOk.nil rfl rfl | exact HeapOk.row rfl rfl (by first | rfl | omega) (fun i _ j _ => ⟨rfl, by first | rfl | exact rowN_imm (fun _ => rfl) _ i j | exact rowF_imm (fun _ => rfl) _ i j⟩) | exact HeapOk.box rfl rfl (by repeat (first | exact trivial | refine ⟨by first | exact LeC.refl _ rfl | exact LeC.ow _ _ rfl | exact LeC.nil _ rfl | exact LeC.nils _ _ | exact LeC.fz rfl rfl (by first | rfl | omega) (fun i _ j _ => ⟨rfl, by first | rfl | exact rowN_imm (fun _ => rfl) _ i j | exact rowF_imm (fun _ => rfl) _ i j⟩) | exact LeC.int (by omega), ?_⟩)) rfl, ?_⟩)
  rw [if_neg (fun h => h ha)]
  rw [if_pos ha] at hOr
  by_cases hb : chk b.W b.H b.n = 0
  case neg =>
    rw [if_pos hb]
    obtain ⟨eb, heb⟩ : ∃ e, chk b.W b.H b.n = e := ⟨_, rfl⟩
    rw [heb] at hCb hOr hb ⊢
    refine acalls_at Try.func19 rfl rfl Try.ntmps19 rfl ?_
    repeat (first
      | refine AWp.seq ?_
      | refine thenA_n ?_
      | refine AWp.ret ?_
      | refine thenA_r ?_
      | refine AWp.condT rfl (by first | rfl | assumption | exact cmT) ?_
      | (refine AWp.region (id := 0) ?_; refine AList.box rfl rfl rfl rfl rfl ?_; refine AList.box rfl rfl rfl rfl rfl ?_; refine AList.box rfl rfl rfl rfl rfl ?_; refine AList.box rfl rfl rfl rfl rfl ?_; refine AList.box rfl rfl rfl rfl rfl ?_; refine AList.alloc tyOk rfl rfl rfl rfl rfl ?_; refine AList.assign rfl rfl rfl ?_; refine AList.nil ?_)
      | (refine AWp.draw (id := 1) mixed ?_; refine AList.loadA tyOk rfl rfl rfl rfl rfl rfl rfl oM oM ?_; refine AList.call rfl rfl rfl rfl Try.func45 rfl (by kernel_rfl) (hCa) ?_; refine AList.loadA tyOk rfl rfl rfl rfl rfl rfl rfl oM oM ?_; refine AList.call rfl rfl rfl rfl Try.func45 rfl (by kernel_rfl) (hCb) ?_; refine AList.litSl tyOk rfl rfl rfl rfl rfl rfl rfl rfl rfl rfl rfl ?_; refine AList.call rfl rfl rfl rfl Try.func44 rfl (by kernel_rfl) (hOr) ?_; refine AList.assign rfl rfl rfl ?_; refine AList.nil ⟨by kernel_rfl, ?_⟩)
      | (refine AWp.region (id := 2) ?_; refine AList.move rfl rfl rfl ?_; refine AList.cmpT rfl rfl rfl rfl rfl cmT ?_; refine AList.nil ?_)
      | (refine AWp.region (id := 3) ?_; refine AList.buildSt tyOk rfl rfl rfl rfl rfl rfl rfl rfl ?_; refine AList.move rfl rfl rfl ?_; refine AList.store tyOk rfl rfl rfl rfl rfl rfl rfl rfl oM oM ?_; refine AList.assign rfl rfl rfl ?_; refine AList.nil ?_))
    refine ⟨mkSt 176 [(10, .c (.pt 10 3 0 0)), (11, .c (iC eb))] [(10, ⟨false, 1, 3, 52, lF (ipC (ipZ))⟩)] [10], [(10, ⟨false, 1, 3, 52, lF (ipC (ipZ))⟩)], Wk.mk [(10, some 10)] rfl rfl rfl ?_ ?_, rfl, rfl, ARets.two (x := .ag _) (y := .c _) (ARes.box tyOk rfl rfl rfl rfl rfl rfl rfl) (ARes.tmp rfl rfl)⟩
    · repeat (first | exact trivial | refine ⟨⟨_, rfl, by first | exact LeA.c (LeC.refl _ rfl) | exact LeA.c (LeC.ow _ _ rfl) | exact LeA.c (LeC.pt _ _ _ _ _ rfl) | exact LeA.c (LeC.nil _ rfl) | exact LeA.c (LeC.nils _ _) | (refine LeA.int ?_; omega) | (refine LeA.int ?_; dsimp only; omega) | exact LeA.c (LeC.fz rfl rfl (by first | rfl | omega) (fun i _ j _ => ⟨rfl, by first | rfl | exact rowN_imm (fun _ => rfl) _ i j | exact rowF_imm (fun _ => rfl) _ i j⟩))⟩, ?_⟩)
    · repeat (first | exact trivial | refine ⟨by first | exact HeapOk.same rfl rfl rfl rfl | exact HeapOk.lent rfl rfl rfl rfl | exact HeapOk.nil rfl rfl | exact HeapOk.row rfl rfl (by first | rfl | omega) (fun i _ j _ => ⟨rfl, by first | rfl | exact rowN_imm (fun _ => rfl) _ i j | exact rowF_imm (fun _ => rfl) _ i j⟩) | exact HeapOk.box rfl rfl (by repeat (first | exact trivial | refine ⟨by first | exact LeC.refl _ rfl | exact LeC.ow _ _ rfl | exact LeC.nil _ rfl | exact LeC.nils _ _ | exact LeC.fz rfl rfl (by first | rfl | omega) (fun i _ j _ => ⟨rfl, by first | rfl | exact rowN_imm (fun _ => rfl) _ i j | exact rowF_imm (fun _ => rfl) _ i j⟩) | exact LeC.int (by omega), ?_⟩)) rfl, ?_⟩)
  rw [if_neg (fun h => h hb)]
  rw [ha, hb] at hOr
  rw [ha] at hCa
  rw [hb] at hCb
  by_cases hok : cmpOk a b
  case neg =>
    rw [if_pos hok]
    rw [decide_eq_false hok] at hCo
    refine acalls_at Try.func19 rfl rfl Try.ntmps19 rfl ?_
    repeat (first
      | refine AWp.seq ?_
      | refine thenA_n ?_
      | refine AWp.skip ?_
      | refine AWp.ret ?_
      | refine thenA_r ?_
      | refine AWp.condT rfl (by first | rfl | assumption | exact cmT) ?_
      | refine AWp.condF rfl (by first | rfl | assumption | exact cmF) ?_
      | (refine AWp.region (id := 0) ?_; refine AList.box rfl rfl rfl rfl rfl ?_; refine AList.box rfl rfl rfl rfl rfl ?_; refine AList.box rfl rfl rfl rfl rfl ?_; refine AList.box rfl rfl rfl rfl rfl ?_; refine AList.box rfl rfl rfl rfl rfl ?_; refine AList.alloc tyOk rfl rfl rfl rfl rfl ?_; refine AList.assign rfl rfl rfl ?_; refine AList.nil ?_)
      | (refine AWp.draw (id := 1) mixed ?_; refine AList.loadA tyOk rfl rfl rfl rfl rfl rfl rfl oM oM ?_; refine AList.call rfl rfl rfl rfl Try.func45 rfl (by kernel_rfl) (hCa) ?_; refine AList.loadA tyOk rfl rfl rfl rfl rfl rfl rfl oM oM ?_; refine AList.call rfl rfl rfl rfl Try.func45 rfl (by kernel_rfl) (hCb) ?_; refine AList.litSl tyOk rfl rfl rfl rfl rfl rfl rfl rfl rfl rfl rfl ?_; refine AList.call rfl rfl rfl rfl Try.func44 rfl (by kernel_rfl) (hOr) ?_; refine AList.assign rfl rfl rfl ?_; refine AList.nil ⟨by kernel_rfl, ?_⟩)
      | (refine AWp.region (id := 2) ?_; refine AList.move rfl rfl rfl ?_; refine AList.cmp rfl rfl rfl rfl rfl ?_; refine AList.nil ?_)
      | (refine AWp.region (id := 4) ?_; refine AList.loadA tyOk rfl rfl rfl rfl rfl rfl rfl oM oM ?_; refine AList.loadA tyOk rfl rfl rfl rfl rfl rfl rfl oM oM ?_; refine AList.call rfl rfl rfl rfl Try.func32 rfl (by kernel_rfl) (hCo) ?_; refine AList.notB rfl rfl rfl ?_; refine AList.nil ?_)
      | (refine AWp.region (id := 5) ?_; refine AList.buildSt tyOk rfl rfl rfl rfl rfl rfl rfl rfl ?_; refine AList.store tyOk rfl rfl rfl rfl rfl rfl rfl rfl oM oM ?_; refine AList.assign rfl rfl rfl ?_; refine AList.nil ?_))
    refine ⟨mkSt 176 [(10, .c (.pt 10 3 0 0)), (11, .c (iC 13))] [(10, ⟨false, 1, 3, 52, lF (ipC (ipZ))⟩)] [10], [(10, ⟨false, 1, 3, 52, lF (ipC (ipZ))⟩)], Wk.mk [(10, some 10)] rfl rfl rfl ?_ ?_, rfl, rfl, ARets.two (x := .ag _) (y := .c _) (ARes.box tyOk rfl rfl rfl rfl rfl rfl rfl) (ARes.tmp rfl rfl)⟩
    · repeat (first | exact trivial | refine ⟨⟨_, rfl, by first | exact LeA.c (LeC.refl _ rfl) | exact LeA.c (LeC.ow _ _ rfl) | exact LeA.c (LeC.pt _ _ _ _ _ rfl) | exact LeA.c (LeC.nil _ rfl) | exact LeA.c (LeC.nils _ _) | (refine LeA.int ?_; omega) | (refine LeA.int ?_; dsimp only; omega) | exact LeA.c (LeC.fz rfl rfl (by first | rfl | omega) (fun i _ j _ => ⟨rfl, by first | rfl | exact rowN_imm (fun _ => rfl) _ i j | exact rowF_imm (fun _ => rfl) _ i j⟩))⟩, ?_⟩)
    · repeat (first | exact trivial | refine ⟨by first | exact HeapOk.same rfl rfl rfl rfl | exact HeapOk.lent rfl rfl rfl rfl | exact HeapOk.nil rfl rfl | exact HeapOk.row rfl rfl (by first | rfl | omega) (fun i _ j _ => ⟨rfl, by first | rfl | exact rowN_imm (fun _ => rfl) _ i j | exact rowF_imm (fun _ => rfl) _ i j⟩) | exact HeapOk.box rfl rfl (by repeat (first | exact trivial | refine ⟨by first | exact LeC.refl _ rfl | exact LeC.ow _ _ rfl | exact LeC.nil _ rfl | exact LeC.nils _ _ | exact LeC.fz rfl rfl (by first | rfl | omega) (fun i _ j _ => ⟨rfl, by first | rfl | exact rowN_imm (fun _ => rfl) _ i j | exact rowF_imm (fun _ => rfl) _ i j⟩) | exact LeC.int (by omega), ?_⟩)) rfl, ?_⟩)
  rw [if_neg (fun h => h hok)]
  rw [decide_eq_true hok] at hCo
  have hl1 := alim_A x
  have hl2 := alim_A y
  have hIs := pis_A a b x y c hok
  cases his : isB a b x y c with
  | false =>
    rw [his] at hIs
    rw [if_neg (by decide)]
    refine acalls_at Try.func19 rfl rfl Try.ntmps19 rfl ?_
    repeat (first
      | refine AWp.seq ?_
      | refine thenA_n ?_
      | refine AWp.skip ?_
      | refine AWp.ret ?_
      | refine thenA_r ?_
      | refine AWp.condT rfl (by first | rfl | assumption | exact cmT) ?_
      | refine AWp.condF rfl (by first | rfl | assumption | exact cmF) ?_
      | (refine AWp.region (id := 0) ?_; refine AList.box rfl rfl rfl rfl rfl ?_; refine AList.box rfl rfl rfl rfl rfl ?_; refine AList.box rfl rfl rfl rfl rfl ?_; refine AList.box rfl rfl rfl rfl rfl ?_; refine AList.box rfl rfl rfl rfl rfl ?_; refine AList.alloc tyOk rfl rfl rfl rfl rfl ?_; refine AList.assign rfl rfl rfl ?_; refine AList.nil ?_)
      | (refine AWp.draw (id := 1) mixed ?_; refine AList.loadA tyOk rfl rfl rfl rfl rfl rfl rfl oM oM ?_; refine AList.call rfl rfl rfl rfl Try.func45 rfl (by kernel_rfl) (hCa) ?_; refine AList.loadA tyOk rfl rfl rfl rfl rfl rfl rfl oM oM ?_; refine AList.call rfl rfl rfl rfl Try.func45 rfl (by kernel_rfl) (hCb) ?_; refine AList.litSl tyOk rfl rfl rfl rfl rfl rfl rfl rfl rfl rfl rfl ?_; refine AList.call rfl rfl rfl rfl Try.func44 rfl (by kernel_rfl) (hOr) ?_; refine AList.assign rfl rfl rfl ?_; refine AList.nil ⟨by kernel_rfl, ?_⟩)
      | (refine AWp.region (id := 2) ?_; refine AList.move rfl rfl rfl ?_; refine AList.cmp rfl rfl rfl rfl rfl ?_; refine AList.nil ?_)
      | (refine AWp.region (id := 4) ?_; refine AList.loadA tyOk rfl rfl rfl rfl rfl rfl rfl oM oM ?_; refine AList.loadA tyOk rfl rfl rfl rfl rfl rfl rfl oM oM ?_; refine AList.call rfl rfl rfl rfl Try.func32 rfl (by kernel_rfl) (hCo) ?_; refine AList.notB rfl rfl rfl ?_; refine AList.nil ?_)
      | (refine AWp.draw (id := 6) mixed ?_; refine AList.loadA tyOk rfl rfl rfl rfl rfl rfl rfl oM oM ?_; refine AList.loadA tyOk rfl rfl rfl rfl rfl rfl rfl oM oM ?_; refine AList.loadA tyOk rfl rfl rfl rfl rfl rfl rfl oM oM ?_; refine AList.call rfl rfl rfl rfl Try.func33 rfl (by kernel_rfl) (hl1) ?_; refine AList.loadA tyOk rfl rfl rfl rfl rfl rfl rfl oM oM ?_; refine AList.call rfl rfl rfl rfl Try.func33 rfl (by kernel_rfl) (hl2) ?_; refine AList.buildSt tyOk rfl rfl rfl rfl rfl rfl rfl rfl ?_; refine AList.alloc tyOk rfl rfl rfl rfl rfl ?_; refine AList.store tyOk rfl rfl rfl rfl rfl rfl rfl rfl oM oM ?_; refine AList.nil ⟨by kernel_rfl, ?_⟩)
      | (refine AWp.region (id := 7) ?_; refine AList.loadA tyOk rfl rfl rfl rfl rfl rfl rfl oM oM ?_; refine AList.loadA tyOk rfl rfl rfl rfl rfl rfl rfl oM oM ?_; refine AList.call rfl rfl rfl rfl Try.func46 rfl (by kernel_rfl) (hIs) ?_; refine AList.notB rfl rfl rfl ?_; refine AList.nil ?_)
      | (refine AWp.region (id := 8) ?_; refine AList.buildSt tyOk rfl rfl rfl rfl rfl rfl rfl rfl ?_; refine AList.store tyOk rfl rfl rfl rfl rfl rfl rfl rfl oM oM ?_; refine AList.assign rfl rfl rfl ?_; refine AList.nil ?_))
    refine ⟨mkSt 176 [(10, .c (.pt 10 3 0 0)), (11, .c (iC 60))] [(10, ⟨false, 1, 3, 52, lF (ipC (ipZ))⟩)] [10], [(10, ⟨false, 1, 3, 52, lF (ipC (ipZ))⟩)], Wk.mk [(10, some 10)] rfl rfl rfl ?_ ?_, rfl, rfl, ARets.two (x := .ag _) (y := .c _) (ARes.box tyOk rfl rfl rfl rfl rfl rfl rfl) (ARes.tmp rfl rfl)⟩
    · repeat (first | exact trivial | refine ⟨⟨_, rfl, by first | exact LeA.c (LeC.refl _ rfl) | exact LeA.c (LeC.ow _ _ rfl) | exact LeA.c (LeC.pt _ _ _ _ _ rfl) | exact LeA.c (LeC.nil _ rfl) | exact LeA.c (LeC.nils _ _) | (refine LeA.int ?_; omega) | (refine LeA.int ?_; dsimp only; omega) | exact LeA.c (LeC.fz rfl rfl (by first | rfl | omega) (fun i _ j _ => ⟨rfl, by first | rfl | exact rowN_imm (fun _ => rfl) _ i j | exact rowF_imm (fun _ => rfl) _ i j⟩))⟩, ?_⟩)
    · repeat (first | exact trivial | refine ⟨by first | exact HeapOk.same rfl rfl rfl rfl | exact HeapOk.lent rfl rfl rfl rfl | exact HeapOk.nil rfl rfl | exact HeapOk.row rfl rfl (by first | rfl | omega) (fun i _ j _ => ⟨rfl, by first | rfl | exact rowN_imm (fun _ => rfl) _ i j | exact rowF_imm (fun _ => rfl) _ i j⟩) | exact HeapOk.box rfl rfl (by repeat (first | exact trivial | refine ⟨by first | exact LeC.refl _ rfl | exact LeC.ow _ _ rfl | exact LeC.nil _ rfl | exact LeC.nils _ _ | exact LeC.fz rfl rfl (by first | rfl | omega) (fun i _ j _ => ⟨rfl, by first | rfl | exact rowN_imm (fun _ => rfl) _ i j | exact rowF_imm (fun _ => rfl) _ i j⟩) | exact LeC.int (by omega), ?_⟩)) rfl, ?_⟩)
  | true =>
    rw [his] at hIs
    rw [if_pos rfl]
    obtain ⟨q0, q1, q2, q3, q4⟩ := okB ha
    have hcm : c ∈ alL a.W x y := by
      unfold isB at his
      rw [Bool.and_eq_true] at his
      exact of_decide_eq_true his.1
    have hcb := cl_mem_bd ⟨q0, q1⟩ hcm
    have b1 := lim_bds x
    have b2 := lim_bds y
    have hpx := alimit_A c.dx (-(lim4 y).sh) (lim4 y).sh
    have hpy := alimit_A c.dy (-(lim4 y).sh) (lim4 y).sh
    have hSt := pstrip_A a b x y ⟨q0, q1⟩
    have ht := stN_bd x y q0
    unfold cmImg cmPx
    have hpb : -2 ≤ cmp1 y c.dx ∧ cmp1 y c.dx ≤ 2 := by unfold cmp1; omega
    have hqb : -2 ≤ cmp1 y c.dy ∧ cmp1 y c.dy ≤ 2 := by unfold cmp1; omega
    rw [show max (-(lim4 y).sh) (min (lim4 y).sh c.dx) = cmp1 y c.dx from rfl] at hpx
    rw [show max (-(lim4 y).sh) (min (lim4 y).sh c.dy) = cmp1 y c.dy from rfl] at hpy
    obtain ⟨p, hp⟩ : ∃ p, cmp1 y c.dx = p := ⟨_, rfl⟩
    obtain ⟨q, hq⟩ : ∃ q, cmp1 y c.dy = q := ⟨_, rfl⟩
    rw [hp] at hpx hpb ⊢
    rw [hq] at hpy hqb ⊢
    obtain ⟨t, htt⟩ : ∃ t, stN a.W x y = t := ⟨_, rfl⟩
    rw [htt] at hSt ht ⊢
    have hN0 : 0 ≤ (a.W + 4) * (a.H + 4) := Int.mul_nonneg (by omega) (by omega)
    obtain ⟨N, hN⟩ := Int.eq_ofNat_of_zero_le hN0
    have hNb : (N : Int) ≤ 10000 := by
      rw [← hN]
      exact Int.mul_le_mul (show a.W + 4 ≤ 100 by omega) (show a.H + 4 ≤ 100 by omega) (by omega) (by omega)
    rw [hN, Int.toNat_natCast]
    obtain ⟨ia, hia⟩ : ∃ f, cmIn a a.W (p - c.dx) (q - c.dy) = f := ⟨_, rfl⟩
    obtain ⟨ib, hib⟩ : ∃ f, cmIn b a.W p q = f := ⟨_, rfl⟩
    obtain ⟨u, hu⟩ : ∃ f, cmU a.W (c.col + 2 + (p - c.dx)) (c.col + 2 + (p - c.dx) + t) = f := ⟨_, rfl⟩
    rw [hia, hib, hu]
    obtain ⟨l0, hl0⟩ : ∃ l, l = ((lim4 x).lo, (lim4 y).lo) := ⟨_, rfl⟩
    rw [← hl0]
    have hlb := cmL_bd (ia := ia) (ib := ib) (u := u) (l := l0) (by rw [hl0]; dsimp only; omega)
    refine acalls_at Try.func19 rfl rfl Try.ntmps19 rfl ?_
    repeat (first
      | refine AWp.seq ?_
      | refine thenA_n ?_
      | refine AWp.block ?_
      | refine AWp.skip ?_
      | refine AWp.condF rfl (by first | rfl | assumption | exact cmF) ?_
      | (refine AWp.region (id := 0) ?_; refine AList.box rfl rfl rfl rfl rfl ?_; refine AList.box rfl rfl rfl rfl rfl ?_; refine AList.box rfl rfl rfl rfl rfl ?_; refine AList.box rfl rfl rfl rfl rfl ?_; refine AList.box rfl rfl rfl rfl rfl ?_; refine AList.alloc tyOk rfl rfl rfl rfl rfl ?_; refine AList.assign rfl rfl rfl ?_; refine AList.nil ?_)
      | (refine AWp.draw (id := 1) mixed ?_; refine AList.loadA tyOk rfl rfl rfl rfl rfl rfl rfl oM oM ?_; refine AList.call rfl rfl rfl rfl Try.func45 rfl (by kernel_rfl) (hCa) ?_; refine AList.loadA tyOk rfl rfl rfl rfl rfl rfl rfl oM oM ?_; refine AList.call rfl rfl rfl rfl Try.func45 rfl (by kernel_rfl) (hCb) ?_; refine AList.litSl tyOk rfl rfl rfl rfl rfl rfl rfl rfl rfl rfl rfl ?_; refine AList.call rfl rfl rfl rfl Try.func44 rfl (by kernel_rfl) (hOr) ?_; refine AList.assign rfl rfl rfl ?_; refine AList.nil ⟨by kernel_rfl, ?_⟩)
      | (refine AWp.region (id := 2) ?_; refine AList.move rfl rfl rfl ?_; refine AList.cmp rfl rfl rfl rfl rfl ?_; refine AList.nil ?_)
      | (refine AWp.region (id := 4) ?_; refine AList.loadA tyOk rfl rfl rfl rfl rfl rfl rfl oM oM ?_; refine AList.loadA tyOk rfl rfl rfl rfl rfl rfl rfl oM oM ?_; refine AList.call rfl rfl rfl rfl Try.func32 rfl (by kernel_rfl) (hCo) ?_; refine AList.notB rfl rfl rfl ?_; refine AList.nil ?_)
      | (refine AWp.draw (id := 6) mixed ?_; refine AList.loadA tyOk rfl rfl rfl rfl rfl rfl rfl oM oM ?_; refine AList.loadA tyOk rfl rfl rfl rfl rfl rfl rfl oM oM ?_; refine AList.loadA tyOk rfl rfl rfl rfl rfl rfl rfl oM oM ?_; refine AList.call rfl rfl rfl rfl Try.func33 rfl (by kernel_rfl) (hl1) ?_; refine AList.loadA tyOk rfl rfl rfl rfl rfl rfl rfl oM oM ?_; refine AList.call rfl rfl rfl rfl Try.func33 rfl (by kernel_rfl) (hl2) ?_; refine AList.buildSt tyOk rfl rfl rfl rfl rfl rfl rfl rfl ?_; refine AList.alloc tyOk rfl rfl rfl rfl rfl ?_; refine AList.store tyOk rfl rfl rfl rfl rfl rfl rfl rfl oM oM ?_; refine AList.nil ⟨by kernel_rfl, ?_⟩)
      | (refine AWp.region (id := 7) ?_; refine AList.loadA tyOk rfl rfl rfl rfl rfl rfl rfl oM oM ?_; refine AList.loadA tyOk rfl rfl rfl rfl rfl rfl rfl oM oM ?_; refine AList.call rfl rfl rfl rfl Try.func46 rfl (by kernel_rfl) (hIs) ?_; refine AList.notB rfl rfl rfl ?_; refine AList.nil ?_)
      | (refine AWp.draw (id := 9) mixed ?_; refine AList.fieldPt tyOk rfl rfl rfl rfl rfl rfl rfl ?_; refine AList.load1 tyOk rfl rfl rfl rfl rfl rfl rfl oM oM ?_; refine AList.fieldPt tyOk rfl rfl rfl rfl rfl rfl rfl ?_; refine AList.fieldPt tyOk rfl rfl rfl rfl rfl rfl rfl ?_; refine AList.load1 tyOk rfl rfl rfl rfl rfl rfl rfl oM oM ?_; refine AList.neg rfl rfl rfl (by omega) (by omega) ?_; refine AList.fieldPt tyOk rfl rfl rfl rfl rfl rfl rfl ?_; refine AList.fieldPt tyOk rfl rfl rfl rfl rfl rfl rfl ?_; refine AList.load1 tyOk rfl rfl rfl rfl rfl rfl rfl oM oM ?_; refine AList.call rfl rfl rfl rfl Try.func47 rfl (by kernel_rfl) (hpx) ?_; refine AList.fieldPt tyOk rfl rfl rfl rfl rfl rfl rfl ?_; refine AList.load1 tyOk rfl rfl rfl rfl rfl rfl rfl oM oM ?_; refine AList.fieldPt tyOk rfl rfl rfl rfl rfl rfl rfl ?_; refine AList.fieldPt tyOk rfl rfl rfl rfl rfl rfl rfl ?_; refine AList.load1 tyOk rfl rfl rfl rfl rfl rfl rfl oM oM ?_; refine AList.neg rfl rfl rfl (by omega) (by omega) ?_; refine AList.fieldPt tyOk rfl rfl rfl rfl rfl rfl rfl ?_; refine AList.fieldPt tyOk rfl rfl rfl rfl rfl rfl rfl ?_; refine AList.load1 tyOk rfl rfl rfl rfl rfl rfl rfl oM oM ?_; refine AList.call rfl rfl rfl rfl Try.func47 rfl (by kernel_rfl) (hpy) ?_; refine AList.buildSt tyOk rfl rfl rfl rfl rfl rfl rfl rfl ?_; refine AList.alloc tyOk rfl rfl rfl rfl rfl ?_; refine AList.store tyOk rfl rfl rfl rfl rfl rfl rfl rfl oM oM ?_; refine AList.nil ⟨by kernel_rfl, ?_⟩)
      | (refine AWp.region (id := 10) ?_; refine AList.fieldPt tyOk rfl rfl rfl rfl rfl rfl rfl ?_; refine AList.load1 tyOk rfl rfl rfl rfl rfl rfl rfl oM oM ?_; refine AList.fieldPt tyOk rfl rfl rfl rfl rfl rfl rfl ?_; refine AList.load1 tyOk rfl rfl rfl rfl rfl rfl rfl oM oM ?_; refine AList.sub rfl rfl rfl rfl (by omega) (by omega) ?_; refine AList.fieldPt tyOk rfl rfl rfl rfl rfl rfl rfl ?_; refine AList.load1 tyOk rfl rfl rfl rfl rfl rfl rfl oM oM ?_; refine AList.fieldPt tyOk rfl rfl rfl rfl rfl rfl rfl ?_; refine AList.load1 tyOk rfl rfl rfl rfl rfl rfl rfl oM oM ?_; refine AList.sub rfl rfl rfl rfl (by omega) (by omega) ?_; refine AList.buildSt tyOk rfl rfl rfl rfl rfl rfl rfl rfl ?_; refine AList.alloc tyOk rfl rfl rfl rfl rfl ?_; refine AList.store tyOk rfl rfl rfl rfl rfl rfl rfl rfl oM oM ?_; refine AList.nil ?_)
      | (refine AWp.region (id := 11) ?_; refine AList.fieldPt tyOk rfl rfl rfl rfl rfl rfl rfl ?_; refine AList.load1 tyOk rfl rfl rfl rfl rfl rfl rfl oM oM ?_; refine AList.add rfl rfl rfl rfl (by omega) (by omega) ?_; refine AList.fieldPt tyOk rfl rfl rfl rfl rfl rfl rfl ?_; refine AList.load1 tyOk rfl rfl rfl rfl rfl rfl rfl oM oM ?_; refine AList.add rfl rfl rfl rfl (by omega) (by omega) ?_; refine AList.assign rfl rfl rfl ?_; refine AList.nil ?_)
      | (refine AWp.region (id := 12) ?_; refine AList.move rfl rfl rfl ?_; refine AList.loadA tyOk rfl rfl rfl rfl rfl rfl rfl oM oM ?_; refine AList.call rfl rfl rfl rfl Try.func48 rfl (by kernel_rfl) (hSt) ?_; refine AList.add rfl rfl rfl rfl (by omega) (by omega) ?_; refine AList.assign rfl rfl rfl ?_; refine AList.nil ?_)
      | (refine AWp.region (id := 13) ?_; refine AList.fieldPt tyOk rfl rfl rfl rfl rfl rfl rfl ?_; refine AList.load1 tyOk rfl rfl rfl rfl rfl rfl rfl oM oM ?_; refine AList.add rfl rfl rfl rfl (by omega) (by omega) ?_; refine AList.fieldPt tyOk rfl rfl rfl rfl rfl rfl rfl ?_; refine AList.load1 tyOk rfl rfl rfl rfl rfl rfl rfl oM oM ?_; refine AList.add rfl rfl rfl rfl (by omega) (by omega) ?_; refine AList.buildSt tyOk rfl rfl rfl rfl rfl rfl rfl rfl ?_; refine AList.alloc tyOk rfl rfl rfl rfl rfl ?_; refine AList.store tyOk rfl rfl rfl rfl rfl rfl rfl rfl oM oM ?_; refine AList.nil ?_)
      | (refine AWp.region (id := 14) ?_; refine AList.assign rfl rfl rfl ?_; refine AList.nil ?_)
      | (refine AWp.region (id := 15) ?_; refine AList.fieldPt tyOk rfl rfl rfl rfl rfl rfl rfl ?_; refine AList.load1 tyOk rfl rfl rfl rfl rfl rfl rfl oM oM ?_; refine AList.fieldPt tyOk rfl rfl rfl rfl rfl rfl rfl ?_; refine AList.load1 tyOk rfl rfl rfl rfl rfl rfl rfl oM oM ?_; refine AList.mul rfl rfl rfl rfl (by omega) (by omega) ?_; refine AList.move rfl rfl rfl ?_; refine AList.nil ?_))
    refine AWp.round (fun k : Nat => mkSt 176 [(5, .c (.pt 5 3 0 0)), (6, .c (.pt 6 3 0 0)), (10, .c (.pt 10 3 0 0)), (13, .c (.pt 13 14 0 0)), (14, .c (.pt 14 2 0 0)), (15, .c (.pt 15 2 0 0)), (16, .c (iC (c.col + 2 + (p - c.dx)))), (17, .c (iC (c.col + 2 + (p - c.dx) + t))), (18, .c (.pt 18 3 0 0)), (19, .c (.fn 49 0 fun _ => .any)), (106, .c (iC N)), (107, .c (iC k))] [(5, ⟨false, 1, 3, 27, lF (bpC a)⟩), (6, ⟨false, 1, 3, 27, lF (bpC b)⟩), (10, ⟨false, 1, 3, 52, lF [iC 0, iC 0, .p (.slice none 0 0)]⟩), (13, prB a b x y (cmL ia ib u l0 k).1 (cmL ia ib u l0 k).2), (14, ⟨false, 1, 2, 48, lF [iC p, iC q]⟩), (15, ⟨false, 1, 2, 48, lF [iC (p - c.dx), iC (q - c.dy)]⟩), (18, ⟨false, 1, 3, 52, lF [iC (a.W + 4), iC (a.H + 4), .ow 60]⟩), (60, rowI k (cmP ia ib u l0))] [5, 6, 10, 13, 14, 15, 18, 60])
      (fun k => k ≤ N) (fun k => N - k) 0 (Nat.zero_le _) ?_ (fun k hk => ?_)
    · rw [show cmL ia ib u l0 0 = ((lim4 x).lo, (lim4 y).lo) from hl0]
      refine Wk.mk [(5, some 5), (6, some 6), (10, some 10), (13, some 13), (14, some 14), (15, some 15), (18, some 18), (60, none)] rfl rfl rfl ?_ ?_
      · rw [← hN]
        repeat (first | exact trivial | refine ⟨⟨_, rfl, by first | exact LeA.c (LeC.fn _ _ _ _ (fun i hi => absurd hi (Nat.not_lt_zero i)) (fun i hi => absurd hi (Nat.not_lt_zero i))) | exact LeA.c (LeC.refl _ rfl) | exact LeA.c (LeC.ow _ _ rfl) | exact LeA.c (LeC.pt _ _ _ _ _ rfl) | exact LeA.c (LeC.nil _ rfl) | exact LeA.c (LeC.nils _ _) | (refine LeA.int ?_; omega) | (refine LeA.int ?_; dsimp only; omega) | exact LeA.c (LeC.fz rfl rfl (by first | rfl | omega) (fun i _ j _ => ⟨rfl, by first | rfl | exact rowN_imm (fun _ => rfl) _ i j | exact rowF_imm (fun _ => rfl) _ i j⟩))⟩, ?_⟩)
      · repeat (first | exact trivial | refine ⟨by first | exact HeapOk.same rfl rfl rfl rfl | exact HeapOk.lent rfl rfl rfl rfl | exact HeapOk.nil rfl rfl | exact HeapOk.row rfl rfl (by first | rfl | omega) (fun i _ j _ => ⟨rfl, by first | rfl | exact rowN_imm (fun _ => rfl) _ i j | exact rowF_imm (fun _ => rfl) _ i j⟩) | exact HeapOk.box rfl rfl (by repeat (first | exact trivial | refine ⟨by first | exact LeC.refl _ rfl | exact LeC.ow _ _ rfl | exact LeC.nil _ rfl | exact LeC.nils _ _ | exact LeC.fz rfl rfl (by first | rfl | omega) (fun i _ j _ => ⟨rfl, by first | rfl | exact rowN_imm (fun _ => rfl) _ i j | exact rowF_imm (fun _ => rfl) _ i j⟩) | exact LeC.int (by omega), ?_⟩)) rfl, ?_⟩)
    · by_cases hkN : k < N
      · have hi0 := Int.emod_nonneg (k : Int) (show a.W + 4 ≠ 0 by omega)
        have hi1 := Int.emod_lt_of_pos (k : Int) (show 0 < a.W + 4 by omega)
        have hj0 := Int.ediv_nonneg (show 0 ≤ (k : Int) by omega) (show 0 ≤ a.W + 4 by omega)
        have hj1 : (k : Int) / (a.W + 4) ≤ 10000 := by
          have := Int.ediv_le_self (a.W + 4) (show 0 ≤ (k : Int) by omega)
          omega
        have hGa := bGet_A a.W a.H a.n a.d ((k : Int) % (a.W + 4) - 2 - (p - c.dx)) ((k : Int) / (a.W + 4) - 2 - (q - c.dy)) ha
        have hGb := bGet_A b.W b.H b.n b.d ((k : Int) % (a.W + 4) - 2 - p) ((k : Int) / (a.W + 4) - 2 - q) hb
        rw [show hasB a.W a.H a.d ((k : Int) % (a.W + 4) - 2 - (p - c.dx)) ((k : Int) / (a.W + 4) - 2 - (q - c.dy)) = ia k by rw [← hia]; rfl] at hGa
        rw [show hasB b.W b.H b.d ((k : Int) % (a.W + 4) - 2 - p) ((k : Int) / (a.W + 4) - 2 - q) = ib k by rw [← hib]; rfl] at hGb
        have hlk := hlb k
        obtain ⟨v, hv⟩ : ∃ v, cmP ia ib u l0 k = v := ⟨_, rfl⟩
        obtain ⟨l1, hl1'⟩ : ∃ l, cmL ia ib u l0 (k + 1) = l := ⟨_, rfl⟩
        obtain ⟨l, hl⟩ : ∃ l, cmL ia ib u l0 k = l := ⟨_, rfl⟩
        have hQ : cmQ (ia k) (ib k) (u k) l = (v, l1) := by rw [← hv, ← hl1', ← hl]; rfl
        rw [hl] at hlk
        have huk : u k = (decide (c.col + 2 + (p - c.dx) ≤ (k : Int) % (a.W + 4)) && decide ((k : Int) % (a.W + 4) < c.col + 2 + (p - c.dx) + t)) := by rw [← hu]; rfl
        clear hlb
        rw [hl]
        repeat (first
          | refine AWp.seq ?_
          | refine AWp.block ?_
          | refine AWp.skip ?_
          | refine AWp.condT rfl (by first | rfl | assumption | exact cmT) ?_
          | (refine AWp.region (id := 16) ?_; refine AList.cmpT rfl rfl rfl rfl rfl cmT ?_; refine AList.nil ?_)
          | (refine AWp.region (id := 17) ?_; refine AList.move rfl rfl rfl ?_; refine AList.assign rfl rfl rfl ?_; refine AList.nil ?_)
          | (refine AWp.draw (id := 18) mixed ?_; refine AList.move rfl rfl rfl ?_; refine AList.fieldPt tyOk rfl rfl rfl rfl rfl rfl rfl ?_; refine AList.load1 tyOk rfl rfl rfl rfl rfl rfl rfl oM oM ?_; refine AList.rem rfl rfl rfl rfl (by omega) (by omega) ?_; refine AList.move rfl rfl rfl ?_; refine AList.fieldPt tyOk rfl rfl rfl rfl rfl rfl rfl ?_; refine AList.load1 tyOk rfl rfl rfl rfl rfl rfl rfl oM oM ?_; refine AList.quo rfl rfl rfl rfl (by omega) (by omega) (by omega) ?_; refine AList.assign rfl rfl rfl ?_; refine AList.assign rfl rfl rfl ?_; refine AList.nil ⟨by kernel_rfl, ?_⟩)
          | (refine AWp.region (id := 19) ?_; refine AList.loadA tyOk rfl rfl rfl rfl rfl rfl rfl oM oM ?_; refine AList.move rfl rfl rfl ?_; refine AList.sub rfl rfl rfl rfl (by omega) (by omega) ?_; refine AList.fieldPt tyOk rfl rfl rfl rfl rfl rfl rfl ?_; refine AList.load1 tyOk rfl rfl rfl rfl rfl rfl rfl oM oM ?_; refine AList.sub rfl rfl rfl rfl (by omega) (by omega) ?_; refine AList.move rfl rfl rfl ?_; refine AList.sub rfl rfl rfl rfl (by omega) (by omega) ?_; refine AList.fieldPt tyOk rfl rfl rfl rfl rfl rfl rfl ?_; refine AList.load1 tyOk rfl rfl rfl rfl rfl rfl rfl oM oM ?_; refine AList.sub rfl rfl rfl rfl (by omega) (by omega) ?_; refine AList.call rfl rfl rfl rfl Try.func50 rfl (by kernel_rfl) (hGa) ?_; refine AList.assign rfl rfl rfl ?_; refine AList.nil ?_)
          | (refine AWp.region (id := 20) ?_; refine AList.loadA tyOk rfl rfl rfl rfl rfl rfl rfl oM oM ?_; refine AList.move rfl rfl rfl ?_; refine AList.sub rfl rfl rfl rfl (by omega) (by omega) ?_; refine AList.fieldPt tyOk rfl rfl rfl rfl rfl rfl rfl ?_; refine AList.load1 tyOk rfl rfl rfl rfl rfl rfl rfl oM oM ?_; refine AList.sub rfl rfl rfl rfl (by omega) (by omega) ?_; refine AList.move rfl rfl rfl ?_; refine AList.sub rfl rfl rfl rfl (by omega) (by omega) ?_; refine AList.fieldPt tyOk rfl rfl rfl rfl rfl rfl rfl ?_; refine AList.load1 tyOk rfl rfl rfl rfl rfl rfl rfl oM oM ?_; refine AList.sub rfl rfl rfl rfl (by omega) (by omega) ?_; refine AList.call rfl rfl rfl rfl Try.func50 rfl (by kernel_rfl) (hGb) ?_; refine AList.assign rfl rfl rfl ?_; refine AList.nil ?_)
          | (refine AWp.region (id := 21) ?_; refine AList.assign rfl rfl rfl ?_; refine AList.nil ?_))
        refine AWp.cut (mkSt 176 [(5, .c (.pt 5 3 0 0)), (6, .c (.pt 6 3 0 0)), (10, .c (.pt 10 3 0 0)), (13, .c (.pt 13 14 0 0)), (14, .c (.pt 14 2 0 0)), (15, .c (.pt 15 2 0 0)), (16, .c (iC (c.col + 2 + (p - c.dx)))), (17, .c (iC (c.col + 2 + (p - c.dx) + t))), (18, .c (.pt 18 3 0 0)), (19, .c (.fn 49 0 fun _ => .any)), (106, .c (iC N)), (107, .c (iC k)), (23, .c (bC (ia k))), (24, .c (bC (ib k))), (25, .c (iC 0)), (142, .c (bC (u k)))] [(5, ⟨false, 1, 3, 27, lF (bpC a)⟩), (6, ⟨false, 1, 3, 27, lF (bpC b)⟩), (10, ⟨false, 1, 3, 52, lF [iC 0, iC 0, .p (.slice none 0 0)]⟩), (13, prB a b x y l.1 l.2), (14, ⟨false, 1, 2, 48, lF [iC p, iC q]⟩), (15, ⟨false, 1, 2, 48, lF [iC (p - c.dx), iC (q - c.dy)]⟩), (18, ⟨false, 1, 3, 52, lF [iC (a.W + 4), iC (a.H + 4), .ow 60]⟩), (60, rowI k (cmP ia ib u l0))] [5, 6, 10, 13, 14, 15, 18, 60]) ?_ (fun S2 hw2 => AWp.weak hw2 ?_)
        · by_cases g1 : c.col + 2 + (p - c.dx) ≤ (k : Int) % (a.W + 4)
          · by_cases g2 : (k : Int) % (a.W + 4) < c.col + 2 + (p - c.dx) + t
            · rw [huk, decide_eq_true g1, decide_eq_true g2]
              repeat (first
                | (refine AWp.region (id := 22) ?_; refine AList.move rfl rfl rfl ?_; refine AList.move rfl rfl rfl ?_; refine AList.cmpT rfl rfl rfl rfl rfl cmT ?_; refine AList.move rfl rfl rfl ?_; refine AList.move rfl rfl rfl ?_; refine AList.move rfl rfl rfl ?_; refine AList.cmpT rfl rfl rfl rfl rfl cmT ?_; refine AList.pickT rfl rfl rfl rfl ?_; refine AList.assign rfl rfl rfl ?_; refine AList.nil ?_))
              refine ⟨rfl, Wk.mk [(5, some 5), (6, some 6), (10, some 10), (13, some 13), (14, some 14), (15, some 15), (18, some 18), (60, some 60)] rfl rfl rfl ?_ ?_⟩
              · repeat (first | exact trivial | refine ⟨⟨_, rfl, by first | exact LeA.c (LeC.fn _ _ _ _ (fun i hi => absurd hi (Nat.not_lt_zero i)) (fun i hi => absurd hi (Nat.not_lt_zero i))) | exact LeA.c (LeC.refl _ rfl) | exact LeA.c (LeC.ow _ _ rfl) | exact LeA.c (LeC.pt _ _ _ _ _ rfl) | exact LeA.c (LeC.nil _ rfl) | exact LeA.c (LeC.nils _ _) | (refine LeA.int ?_; omega) | (refine LeA.int ?_; dsimp only; omega) | exact LeA.c (LeC.fz rfl rfl (by first | rfl | omega) (fun i _ j _ => ⟨rfl, by first | rfl | exact rowN_imm (fun _ => rfl) _ i j | exact rowF_imm (fun _ => rfl) _ i j⟩))⟩, ?_⟩)
              · repeat (first | exact trivial | refine ⟨by first | exact HeapOk.same rfl rfl rfl rfl | exact HeapOk.lent rfl rfl rfl rfl | exact HeapOk.nil rfl rfl | exact HeapOk.row rfl rfl (by first | rfl | omega) (fun i _ j _ => ⟨rfl, by first | rfl | exact rowN_imm (fun _ => rfl) _ i j | exact rowF_imm (fun _ => rfl) _ i j⟩) | exact HeapOk.box rfl rfl (by repeat (first | exact trivial | refine ⟨by first | exact LeC.refl _ rfl | exact LeC.ow _ _ rfl | exact LeC.nil _ rfl | exact LeC.nils _ _ | exact LeC.fz rfl rfl (by first | rfl | omega) (fun i _ j _ => ⟨rfl, by first | rfl | exact rowN_imm (fun _ => rfl) _ i j | exact rowF_imm (fun _ => rfl) _ i j⟩) | exact LeC.int (by omega), ?_⟩)) rfl, ?_⟩)
            · rw [huk, decide_eq_true g1, decide_eq_false g2]
              repeat (first
                | (refine AWp.region (id := 22) ?_; refine AList.move rfl rfl rfl ?_; refine AList.move rfl rfl rfl ?_; refine AList.cmpT rfl rfl rfl rfl rfl cmT ?_; refine AList.move rfl rfl rfl ?_; refine AList.move rfl rfl rfl ?_; refine AList.move rfl rfl rfl ?_; refine AList.cmpF rfl rfl rfl rfl rfl cmF ?_; refine AList.pickT rfl rfl rfl rfl ?_; refine AList.assign rfl rfl rfl ?_; refine AList.nil ?_))
              refine ⟨rfl, Wk.mk [(5, some 5), (6, some 6), (10, some 10), (13, some 13), (14, some 14), (15, some 15), (18, some 18), (60, some 60)] rfl rfl rfl ?_ ?_⟩
              · repeat (first | exact trivial | refine ⟨⟨_, rfl, by first | exact LeA.c (LeC.fn _ _ _ _ (fun i hi => absurd hi (Nat.not_lt_zero i)) (fun i hi => absurd hi (Nat.not_lt_zero i))) | exact LeA.c (LeC.refl _ rfl) | exact LeA.c (LeC.ow _ _ rfl) | exact LeA.c (LeC.pt _ _ _ _ _ rfl) | exact LeA.c (LeC.nil _ rfl) | exact LeA.c (LeC.nils _ _) | (refine LeA.int ?_; omega) | (refine LeA.int ?_; dsimp only; omega) | exact LeA.c (LeC.fz rfl rfl (by first | rfl | omega) (fun i _ j _ => ⟨rfl, by first | rfl | exact rowN_imm (fun _ => rfl) _ i j | exact rowF_imm (fun _ => rfl) _ i j⟩))⟩, ?_⟩)
              · repeat (first | exact trivial | refine ⟨by first | exact HeapOk.same rfl rfl rfl rfl | exact HeapOk.lent rfl rfl rfl rfl | exact HeapOk.nil rfl rfl | exact HeapOk.row rfl rfl (by first | rfl | omega) (fun i _ j _ => ⟨rfl, by first | rfl | exact rowN_imm (fun _ => rfl) _ i j | exact rowF_imm (fun _ => rfl) _ i j⟩) | exact HeapOk.box rfl rfl (by repeat (first | exact trivial | refine ⟨by first | exact LeC.refl _ rfl | exact LeC.ow _ _ rfl | exact LeC.nil _ rfl | exact LeC.nils _ _ | exact LeC.fz rfl rfl (by first | rfl | omega) (fun i _ j _ => ⟨rfl, by first | rfl | exact rowN_imm (fun _ => rfl) _ i j | exact rowF_imm (fun _ => rfl) _ i j⟩) | exact LeC.int (by omega), ?_⟩)) rfl, ?_⟩)
          · rw [huk, decide_eq_false g1]
            repeat (first
              | (refine AWp.region (id := 22) ?_; refine AList.move rfl rfl rfl ?_; refine AList.move rfl rfl rfl ?_; refine AList.cmpF rfl rfl rfl rfl rfl cmF ?_; refine AList.move rfl rfl rfl ?_; refine AList.skip rfl rfl ?_; refine AList.skip rfl rfl ?_; refine AList.skip rfl rfl ?_; refine AList.pickF rfl rfl rfl rfl ?_; refine AList.assign rfl rfl rfl ?_; refine AList.nil ?_))
            refine ⟨rfl, Wk.mk [(5, some 5), (6, some 6), (10, some 10), (13, some 13), (14, some 14), (15, some 15), (18, some 18), (60, some 60)] rfl rfl rfl ?_ ?_⟩
            · repeat (first | exact trivial | refine ⟨⟨_, rfl, by first | exact LeA.c (LeC.fn _ _ _ _ (fun i hi => absurd hi (Nat.not_lt_zero i)) (fun i hi => absurd hi (Nat.not_lt_zero i))) | exact LeA.c (LeC.refl _ rfl) | exact LeA.c (LeC.ow _ _ rfl) | exact LeA.c (LeC.pt _ _ _ _ _ rfl) | exact LeA.c (LeC.nil _ rfl) | exact LeA.c (LeC.nils _ _) | (refine LeA.int ?_; omega) | (refine LeA.int ?_; dsimp only; omega) | exact LeA.c (LeC.fz rfl rfl (by first | rfl | omega) (fun i _ j _ => ⟨rfl, by first | rfl | exact rowN_imm (fun _ => rfl) _ i j | exact rowF_imm (fun _ => rfl) _ i j⟩))⟩, ?_⟩)
            · repeat (first | exact trivial | refine ⟨by first | exact HeapOk.same rfl rfl rfl rfl | exact HeapOk.lent rfl rfl rfl rfl | exact HeapOk.nil rfl rfl | exact HeapOk.row rfl rfl (by first | rfl | omega) (fun i _ j _ => ⟨rfl, by first | rfl | exact rowN_imm (fun _ => rfl) _ i j | exact rowF_imm (fun _ => rfl) _ i j⟩) | exact HeapOk.box rfl rfl (by repeat (first | exact trivial | refine ⟨by first | exact LeC.refl _ rfl | exact LeC.ow _ _ rfl | exact LeC.nil _ rfl | exact LeC.nils _ _ | exact LeC.fz rfl rfl (by first | rfl | omega) (fun i _ j _ => ⟨rfl, by first | rfl | exact rowN_imm (fun _ => rfl) _ i j | exact rowF_imm (fun _ => rfl) _ i j⟩) | exact LeC.int (by omega), ?_⟩)) rfl, ?_⟩)
        refine AWp.cut (mkSt 176 [(5, .c (.pt 5 3 0 0)), (6, .c (.pt 6 3 0 0)), (10, .c (.pt 10 3 0 0)), (13, .c (.pt 13 14 0 0)), (14, .c (.pt 14 2 0 0)), (15, .c (.pt 15 2 0 0)), (16, .c (iC (c.col + 2 + (p - c.dx)))), (17, .c (iC (c.col + 2 + (p - c.dx) + t))), (18, .c (.pt 18 3 0 0)), (19, .c (.fn 49 0 fun _ => .any)), (106, .c (iC N)), (107, .c (iC k)), (25, .c (iC v))] [(5, ⟨false, 1, 3, 27, lF (bpC a)⟩), (6, ⟨false, 1, 3, 27, lF (bpC b)⟩), (10, ⟨false, 1, 3, 52, lF [iC 0, iC 0, .p (.slice none 0 0)]⟩), (13, prB a b x y l1.1 l1.2), (14, ⟨false, 1, 2, 48, lF [iC p, iC q]⟩), (15, ⟨false, 1, 2, 48, lF [iC (p - c.dx), iC (q - c.dy)]⟩), (18, ⟨false, 1, 3, 52, lF [iC (a.W + 4), iC (a.H + 4), .ow 60]⟩), (60, rowI k (cmP ia ib u l0))] [5, 6, 10, 13, 14, 15, 18, 60]) ?_ (fun S3 hw3 => AWp.weak hw3 ?_)
        · clear huk hw2 hGa hGb
          cases hu' : u k with
          | true =>
            rw [hu'] at hQ
            obtain ⟨rfl, rfl⟩ := Prod.mk.inj hQ
            repeat (first
              | refine AWp.condT rfl (by first | rfl | assumption | exact cmT) ?_
              | (refine AWp.region (id := 23) ?_; refine AList.assign rfl rfl rfl ?_; refine AList.nil ?_))
            refine ⟨rfl, Wk.mk [(5, some 5), (6, some 6), (10, some 10), (13, some 13), (14, some 14), (15, some 15), (18, some 18), (60, some 60)] rfl rfl rfl ?_ ?_⟩
            · repeat (first | exact trivial | refine ⟨⟨_, rfl, by first | exact LeA.c (LeC.fn _ _ _ _ (fun i hi => absurd hi (Nat.not_lt_zero i)) (fun i hi => absurd hi (Nat.not_lt_zero i))) | exact LeA.c (LeC.refl _ rfl) | exact LeA.c (LeC.ow _ _ rfl) | exact LeA.c (LeC.pt _ _ _ _ _ rfl) | exact LeA.c (LeC.nil _ rfl) | exact LeA.c (LeC.nils _ _) | (refine LeA.int ?_; omega) | (refine LeA.int ?_; dsimp only; omega) | exact LeA.c (LeC.fz rfl rfl (by first | rfl | omega) (fun i _ j _ => ⟨rfl, by first | rfl | exact rowN_imm (fun _ => rfl) _ i j | exact rowF_imm (fun _ => rfl) _ i j⟩))⟩, ?_⟩)
            · repeat (first | exact trivial | refine ⟨by first | exact HeapOk.same rfl rfl rfl rfl | exact HeapOk.lent rfl rfl rfl rfl | exact HeapOk.nil rfl rfl | exact HeapOk.row rfl rfl (by first | rfl | omega) (fun i _ j _ => ⟨rfl, by first | rfl | exact rowN_imm (fun _ => rfl) _ i j | exact rowF_imm (fun _ => rfl) _ i j⟩) | exact HeapOk.box rfl rfl (by repeat (first | exact trivial | refine ⟨by first | exact LeC.refl _ rfl | exact LeC.ow _ _ rfl | exact LeC.nil _ rfl | exact LeC.nils _ _ | exact LeC.fz rfl rfl (by first | rfl | omega) (fun i _ j _ => ⟨rfl, by first | rfl | exact rowN_imm (fun _ => rfl) _ i j | exact rowF_imm (fun _ => rfl) _ i j⟩) | exact LeC.int (by omega), ?_⟩)) rfl, ?_⟩)
          | false =>
            rw [hu'] at hQ
            cases hia' : ia k with
            | true =>
              rw [hia'] at hQ
              cases hib' : ib k with
              | true =>
                rw [hib'] at hQ
                obtain ⟨rfl, rfl⟩ := Prod.mk.inj hQ
                repeat (first
                  | refine AWp.seq ?_
                  | refine thenA_n ?_
                  | refine AWp.condT rfl (by first | rfl | assumption | exact cmT) ?_
                  | refine AWp.condF rfl (by first | rfl | assumption | exact cmF) ?_
                  | (refine AWp.region (id := 24) ?_; refine AList.move rfl rfl rfl ?_; refine AList.move rfl rfl rfl ?_; refine AList.move rfl rfl rfl ?_; refine AList.pickT rfl rfl rfl rfl ?_; refine AList.assign rfl rfl rfl ?_; refine AList.nil ?_)
                  | (refine AWp.region (id := 25) ?_; refine AList.assign rfl rfl rfl ?_; refine AList.nil ?_))
                refine ⟨rfl, Wk.mk [(5, some 5), (6, some 6), (10, some 10), (13, some 13), (14, some 14), (15, some 15), (18, some 18), (60, some 60)] rfl rfl rfl ?_ ?_⟩
                · repeat (first | exact trivial | refine ⟨⟨_, rfl, by first | exact LeA.c (LeC.fn _ _ _ _ (fun i hi => absurd hi (Nat.not_lt_zero i)) (fun i hi => absurd hi (Nat.not_lt_zero i))) | exact LeA.c (LeC.refl _ rfl) | exact LeA.c (LeC.ow _ _ rfl) | exact LeA.c (LeC.pt _ _ _ _ _ rfl) | exact LeA.c (LeC.nil _ rfl) | exact LeA.c (LeC.nils _ _) | (refine LeA.int ?_; omega) | (refine LeA.int ?_; dsimp only; omega) | exact LeA.c (LeC.fz rfl rfl (by first | rfl | omega) (fun i _ j _ => ⟨rfl, by first | rfl | exact rowN_imm (fun _ => rfl) _ i j | exact rowF_imm (fun _ => rfl) _ i j⟩))⟩, ?_⟩)
                · repeat (first | exact trivial | refine ⟨by first | exact HeapOk.same rfl rfl rfl rfl | exact HeapOk.lent rfl rfl rfl rfl | exact HeapOk.nil rfl rfl | exact HeapOk.row rfl rfl (by first | rfl | omega) (fun i _ j _ => ⟨rfl, by first | rfl | exact rowN_imm (fun _ => rfl) _ i j | exact rowF_imm (fun _ => rfl) _ i j⟩) | exact HeapOk.box rfl rfl (by repeat (first | exact trivial | refine ⟨by first | exact LeC.refl _ rfl | exact LeC.ow _ _ rfl | exact LeC.nil _ rfl | exact LeC.nils _ _ | exact LeC.fz rfl rfl (by first | rfl | omega) (fun i _ j _ => ⟨rfl, by first | rfl | exact rowN_imm (fun _ => rfl) _ i j | exact rowF_imm (fun _ => rfl) _ i j⟩) | exact LeC.int (by omega), ?_⟩)) rfl, ?_⟩)
              | false =>
                rw [hib'] at hQ
                by_cases h0 : l.1 = 0
                · have hQ1 : ((1 : Int), l) = (v, l1) := by rw [← hQ]; show _ = (if l.1 = 0 then _ else _); rw [if_pos h0]
                  obtain ⟨rfl, rfl⟩ := Prod.mk.inj hQ1
                  repeat (first
                    | refine AWp.seq ?_
                    | refine thenA_n ?_
                    | refine AWp.condT rfl (by first | rfl | assumption | exact cmT) ?_
                    | refine AWp.condF rfl (by first | rfl | assumption | exact cmF) ?_
                    | (refine AWp.region (id := 24) ?_; refine AList.move rfl rfl rfl ?_; refine AList.move rfl rfl rfl ?_; refine AList.move rfl rfl rfl ?_; refine AList.pickT rfl rfl rfl rfl ?_; refine AList.assign rfl rfl rfl ?_; refine AList.nil ?_)
                    | (refine AWp.region (id := 26) ?_; refine AList.move rfl rfl rfl ?_; refine AList.assign rfl rfl rfl ?_; refine AList.nil ?_)
                    | (refine AWp.region (id := 27) ?_; refine AList.move rfl rfl rfl ?_; refine AList.fieldPt tyOk rfl rfl rfl rfl rfl rfl rfl ?_; refine AList.fieldPt tyOk rfl rfl rfl rfl rfl rfl rfl ?_; refine AList.callC [13] [prB a b x y (l.1) (l.2)] [prB a b x y (l.1) (l.2)] [prB a b x y (l.1) (l.2)] rfl rfl rfl rfl rfl Try.func49 rfl (by kernel_rfl) (LendOk2.box rfl ⟨LentC.imm rfl, LentC.imm rfl, LentC.imm rfl, LentC.imm rfl, LentC.imm rfl, LentC.imm rfl, LentC.imm rfl, LentC.imm rfl, LentC.imm rfl, LentC.imm rfl, LentC.imm rfl, LentC.imm rfl, LentC.imm rfl, LentC.imm rfl, trivial⟩ rfl trivial) rfl (BackOk.box ⟨LentC.imm rfl, LentC.imm rfl, LentC.imm rfl, LentC.imm rfl, LentC.imm rfl, LentC.imm rfl, LentC.imm rfl, LentC.imm rfl, LentC.imm rfl, LentC.imm rfl, LentC.imm rfl, LentC.imm rfl, LentC.imm rfl, LentC.imm rfl, trivial⟩ rfl rfl trivial) (loseX0 a b x y l.1 l.2 hlk.1 hlk.2 h0) ?_; refine AList.assign rfl rfl rfl ?_; refine AList.nil ?_))
                  refine ⟨rfl, Wk.mk [(5, some 5), (6, some 6), (10, some 10), (13, some 13), (14, some 14), (15, some 15), (18, some 18), (60, some 60)] rfl rfl rfl ?_ ?_⟩
                  · repeat (first | exact trivial | refine ⟨⟨_, rfl, by first | exact LeA.c (LeC.fn _ _ _ _ (fun i hi => absurd hi (Nat.not_lt_zero i)) (fun i hi => absurd hi (Nat.not_lt_zero i))) | exact LeA.c (LeC.refl _ rfl) | exact LeA.c (LeC.ow _ _ rfl) | exact LeA.c (LeC.pt _ _ _ _ _ rfl) | exact LeA.c (LeC.nil _ rfl) | exact LeA.c (LeC.nils _ _) | (refine LeA.int ?_; omega) | (refine LeA.int ?_; dsimp only; omega) | exact LeA.c (LeC.fz rfl rfl (by first | rfl | omega) (fun i _ j _ => ⟨rfl, by first | rfl | exact rowN_imm (fun _ => rfl) _ i j | exact rowF_imm (fun _ => rfl) _ i j⟩))⟩, ?_⟩)
                  · repeat (first | exact trivial | refine ⟨by first | exact HeapOk.same rfl rfl rfl rfl | exact HeapOk.lent rfl rfl rfl rfl | exact HeapOk.nil rfl rfl | exact HeapOk.row rfl rfl (by first | rfl | omega) (fun i _ j _ => ⟨rfl, by first | rfl | exact rowN_imm (fun _ => rfl) _ i j | exact rowF_imm (fun _ => rfl) _ i j⟩) | exact HeapOk.box rfl rfl (by repeat (first | exact trivial | refine ⟨by first | exact LeC.refl _ rfl | exact LeC.ow _ _ rfl | exact LeC.nil _ rfl | exact LeC.nils _ _ | exact LeC.fz rfl rfl (by first | rfl | omega) (fun i _ j _ => ⟨rfl, by first | rfl | exact rowN_imm (fun _ => rfl) _ i j | exact rowF_imm (fun _ => rfl) _ i j⟩) | exact LeC.int (by omega), ?_⟩)) rfl, ?_⟩)
                · have hQ1 : ((0 : Int), (l.1 - 1, l.2)) = (v, l1) := by rw [← hQ]; show _ = (if l.1 = 0 then _ else _); rw [if_neg h0]
                  obtain ⟨rfl, rfl⟩ := Prod.mk.inj hQ1
                  repeat (first
                    | refine AWp.seq ?_
                    | refine thenA_n ?_
                    | refine AWp.condT rfl (by first | rfl | assumption | exact cmT) ?_
                    | refine AWp.condF rfl (by first | rfl | assumption | exact cmF) ?_
                    | (refine AWp.region (id := 24) ?_; refine AList.move rfl rfl rfl ?_; refine AList.move rfl rfl rfl ?_; refine AList.move rfl rfl rfl ?_; refine AList.pickT rfl rfl rfl rfl ?_; refine AList.assign rfl rfl rfl ?_; refine AList.nil ?_)
                    | (refine AWp.region (id := 26) ?_; refine AList.move rfl rfl rfl ?_; refine AList.assign rfl rfl rfl ?_; refine AList.nil ?_)
                    | (refine AWp.region (id := 27) ?_; refine AList.move rfl rfl rfl ?_; refine AList.fieldPt tyOk rfl rfl rfl rfl rfl rfl rfl ?_; refine AList.fieldPt tyOk rfl rfl rfl rfl rfl rfl rfl ?_; refine AList.callC [13] [prB a b x y (l.1) (l.2)] [prB a b x y (l.1 - 1) (l.2)] [prB a b x y (l.1 - 1) (l.2)] rfl rfl rfl rfl rfl Try.func49 rfl (by kernel_rfl) (LendOk2.box rfl ⟨LentC.imm rfl, LentC.imm rfl, LentC.imm rfl, LentC.imm rfl, LentC.imm rfl, LentC.imm rfl, LentC.imm rfl, LentC.imm rfl, LentC.imm rfl, LentC.imm rfl, LentC.imm rfl, LentC.imm rfl, LentC.imm rfl, LentC.imm rfl, trivial⟩ rfl trivial) rfl (BackOk.box ⟨LentC.imm rfl, LentC.imm rfl, LentC.imm rfl, LentC.imm rfl, LentC.imm rfl, LentC.imm rfl, LentC.imm rfl, LentC.imm rfl, LentC.imm rfl, LentC.imm rfl, LentC.imm rfl, LentC.imm rfl, LentC.imm rfl, LentC.imm rfl, trivial⟩ rfl rfl trivial) (loseX1 a b x y l.1 l.2 hlk.1 hlk.2 h0) ?_; refine AList.assign rfl rfl rfl ?_; refine AList.nil ?_))
                  refine ⟨rfl, Wk.mk [(5, some 5), (6, some 6), (10, some 10), (13, some 13), (14, some 14), (15, some 15), (18, some 18), (60, some 60)] rfl rfl rfl ?_ ?_⟩
                  · repeat (first | exact trivial | refine ⟨⟨_, rfl, by first | exact LeA.c (LeC.fn _ _ _ _ (fun i hi => absurd hi (Nat.not_lt_zero i)) (fun i hi => absurd hi (Nat.not_lt_zero i))) | exact LeA.c (LeC.refl _ rfl) | exact LeA.c (LeC.ow _ _ rfl) | exact LeA.c (LeC.pt _ _ _ _ _ rfl) | exact LeA.c (LeC.nil _ rfl) | exact LeA.c (LeC.nils _ _) | (refine LeA.int ?_; omega) | (refine LeA.int ?_; dsimp only; omega) | exact LeA.c (LeC.fz rfl rfl (by first | rfl | omega) (fun i _ j _ => ⟨rfl, by first | rfl | exact rowN_imm (fun _ => rfl) _ i j | exact rowF_imm (fun _ => rfl) _ i j⟩))⟩, ?_⟩)
                  · repeat (first | exact trivial | refine ⟨by first | exact HeapOk.same rfl rfl rfl rfl | exact HeapOk.lent rfl rfl rfl rfl | exact HeapOk.nil rfl rfl | exact HeapOk.row rfl rfl (by first | rfl | omega) (fun i _ j _ => ⟨rfl, by first | rfl | exact rowN_imm (fun _ => rfl) _ i j | exact rowF_imm (fun _ => rfl) _ i j⟩) | exact HeapOk.box rfl rfl (by repeat (first | exact trivial | refine ⟨by first | exact LeC.refl _ rfl | exact LeC.ow _ _ rfl | exact LeC.nil _ rfl | exact LeC.nils _ _ | exact LeC.fz rfl rfl (by first | rfl | omega) (fun i _ j _ => ⟨rfl, by first | rfl | exact rowN_imm (fun _ => rfl) _ i j | exact rowF_imm (fun _ => rfl) _ i j⟩) | exact LeC.int (by omega), ?_⟩)) rfl, ?_⟩)
            | false =>
              rw [hia'] at hQ
              cases hib' : ib k with
              | true =>
                rw [hib'] at hQ
                by_cases h0 : l.2 = 0
                · have hQ1 : ((1 : Int), l) = (v, l1) := by rw [← hQ]; show _ = (if l.2 = 0 then _ else _); rw [if_pos h0]
                  obtain ⟨rfl, rfl⟩ := Prod.mk.inj hQ1
                  repeat (first
                    | refine AWp.seq ?_
                    | refine thenA_n ?_
                    | refine AWp.condT rfl (by first | rfl | assumption | exact cmT) ?_
                    | refine AWp.condF rfl (by first | rfl | assumption | exact cmF) ?_
                    | (refine AWp.region (id := 24) ?_; refine AList.move rfl rfl rfl ?_; refine AList.move rfl rfl rfl ?_; refine AList.skip rfl rfl ?_; refine AList.pickF rfl rfl rfl rfl ?_; refine AList.assign rfl rfl rfl ?_; refine AList.nil ?_)
                    | (refine AWp.region (id := 26) ?_; refine AList.move rfl rfl rfl ?_; refine AList.assign rfl rfl rfl ?_; refine AList.nil ?_)
                    | (refine AWp.region (id := 28) ?_; refine AList.move rfl rfl rfl ?_; refine AList.assign rfl rfl rfl ?_; refine AList.nil ?_)
                    | (refine AWp.region (id := 29) ?_; refine AList.move rfl rfl rfl ?_; refine AList.fieldPt tyOk rfl rfl rfl rfl rfl rfl rfl ?_; refine AList.fieldPt tyOk rfl rfl rfl rfl rfl rfl rfl ?_; refine AList.callC [13] [prB a b x y (l.1) (l.2)] [prB a b x y (l.1) (l.2)] [prB a b x y (l.1) (l.2)] rfl rfl rfl rfl rfl Try.func49 rfl (by kernel_rfl) (LendOk2.box rfl ⟨LentC.imm rfl, LentC.imm rfl, LentC.imm rfl, LentC.imm rfl, LentC.imm rfl, LentC.imm rfl, LentC.imm rfl, LentC.imm rfl, LentC.imm rfl, LentC.imm rfl, LentC.imm rfl, LentC.imm rfl, LentC.imm rfl, LentC.imm rfl, trivial⟩ rfl trivial) rfl (BackOk.box ⟨LentC.imm rfl, LentC.imm rfl, LentC.imm rfl, LentC.imm rfl, LentC.imm rfl, LentC.imm rfl, LentC.imm rfl, LentC.imm rfl, LentC.imm rfl, LentC.imm rfl, LentC.imm rfl, LentC.imm rfl, LentC.imm rfl, LentC.imm rfl, trivial⟩ rfl rfl trivial) (loseY0 a b x y l.1 l.2 hlk.1 hlk.2 h0) ?_; refine AList.assign rfl rfl rfl ?_; refine AList.nil ?_))
                  refine ⟨rfl, Wk.mk [(5, some 5), (6, some 6), (10, some 10), (13, some 13), (14, some 14), (15, some 15), (18, some 18), (60, some 60)] rfl rfl rfl ?_ ?_⟩
                  · repeat (first | exact trivial | refine ⟨⟨_, rfl, by first | exact LeA.c (LeC.fn _ _ _ _ (fun i hi => absurd hi (Nat.not_lt_zero i)) (fun i hi => absurd hi (Nat.not_lt_zero i))) | exact LeA.c (LeC.refl _ rfl) | exact LeA.c (LeC.ow _ _ rfl) | exact LeA.c (LeC.pt _ _ _ _ _ rfl) | exact LeA.c (LeC.nil _ rfl) | exact LeA.c (LeC.nils _ _) | (refine LeA.int ?_; omega) | (refine LeA.int ?_; dsimp only; omega) | exact LeA.c (LeC.fz rfl rfl (by first | rfl | omega) (fun i _ j _ => ⟨rfl, by first | rfl | exact rowN_imm (fun _ => rfl) _ i j | exact rowF_imm (fun _ => rfl) _ i j⟩))⟩, ?_⟩)
                  · repeat (first | exact trivial | refine ⟨by first | exact HeapOk.same rfl rfl rfl rfl | exact HeapOk.lent rfl rfl rfl rfl | exact HeapOk.nil rfl rfl | exact HeapOk.row rfl rfl (by first | rfl | omega) (fun i _ j _ => ⟨rfl, by first | rfl | exact rowN_imm (fun _ => rfl) _ i j | exact rowF_imm (fun _ => rfl) _ i j⟩) | exact HeapOk.box rfl rfl (by repeat (first | exact trivial | refine ⟨by first | exact LeC.refl _ rfl | exact LeC.ow _ _ rfl | exact LeC.nil _ rfl | exact LeC.nils _ _ | exact LeC.fz rfl rfl (by first | rfl | omega) (fun i _ j _ => ⟨rfl, by first | rfl | exact rowN_imm (fun _ => rfl) _ i j | exact rowF_imm (fun _ => rfl) _ i j⟩) | exact LeC.int (by omega), ?_⟩)) rfl, ?_⟩)
                · have hQ1 : ((0 : Int), (l.1, l.2 - 1)) = (v, l1) := by rw [← hQ]; show _ = (if l.2 = 0 then _ else _); rw [if_neg h0]
                  obtain ⟨rfl, rfl⟩ := Prod.mk.inj hQ1
                  repeat (first
                    | refine AWp.seq ?_
                    | refine thenA_n ?_
                    | refine AWp.condT rfl (by first | rfl | assumption | exact cmT) ?_
                    | refine AWp.condF rfl (by first | rfl | assumption | exact cmF) ?_
                    | (refine AWp.region (id := 24) ?_; refine AList.move rfl rfl rfl ?_; refine AList.move rfl rfl rfl ?_; refine AList.skip rfl rfl ?_; refine AList.pickF rfl rfl rfl rfl ?_; refine AList.assign rfl rfl rfl ?_; refine AList.nil ?_)
                    | (refine AWp.region (id := 26) ?_; refine AList.move rfl rfl rfl ?_; refine AList.assign rfl rfl rfl ?_; refine AList.nil ?_)
                    | (refine AWp.region (id := 28) ?_; refine AList.move rfl rfl rfl ?_; refine AList.assign rfl rfl rfl ?_; refine AList.nil ?_)
                    | (refine AWp.region (id := 29) ?_; refine AList.move rfl rfl rfl ?_; refine AList.fieldPt tyOk rfl rfl rfl rfl rfl rfl rfl ?_; refine AList.fieldPt tyOk rfl rfl rfl rfl rfl rfl rfl ?_; refine AList.callC [13] [prB a b x y (l.1) (l.2)] [prB a b x y (l.1) (l.2 - 1)] [prB a b x y (l.1) (l.2 - 1)] rfl rfl rfl rfl rfl Try.func49 rfl (by kernel_rfl) (LendOk2.box rfl ⟨LentC.imm rfl, LentC.imm rfl, LentC.imm rfl, LentC.imm rfl, LentC.imm rfl, LentC.imm rfl, LentC.imm rfl, LentC.imm rfl, LentC.imm rfl, LentC.imm rfl, LentC.imm rfl, LentC.imm rfl, LentC.imm rfl, LentC.imm rfl, trivial⟩ rfl trivial) rfl (BackOk.box ⟨LentC.imm rfl, LentC.imm rfl, LentC.imm rfl, LentC.imm rfl, LentC.imm rfl, LentC.imm rfl, LentC.imm rfl, LentC.imm rfl, LentC.imm rfl, LentC.imm rfl, LentC.imm rfl, LentC.imm rfl, LentC.imm rfl, LentC.imm rfl, trivial⟩ rfl rfl trivial) (loseY1 a b x y l.1 l.2 hlk.1 hlk.2 h0) ?_; refine AList.assign rfl rfl rfl ?_; refine AList.nil ?_))
                  refine ⟨rfl, Wk.mk [(5, some 5), (6, some 6), (10, some 10), (13, some 13), (14, some 14), (15, some 15), (18, some 18), (60, some 60)] rfl rfl rfl ?_ ?_⟩
                  · repeat (first | exact trivial | refine ⟨⟨_, rfl, by first | exact LeA.c (LeC.fn _ _ _ _ (fun i hi => absurd hi (Nat.not_lt_zero i)) (fun i hi => absurd hi (Nat.not_lt_zero i))) | exact LeA.c (LeC.refl _ rfl) | exact LeA.c (LeC.ow _ _ rfl) | exact LeA.c (LeC.pt _ _ _ _ _ rfl) | exact LeA.c (LeC.nil _ rfl) | exact LeA.c (LeC.nils _ _) | (refine LeA.int ?_; omega) | (refine LeA.int ?_; dsimp only; omega) | exact LeA.c (LeC.fz rfl rfl (by first | rfl | omega) (fun i _ j _ => ⟨rfl, by first | rfl | exact rowN_imm (fun _ => rfl) _ i j | exact rowF_imm (fun _ => rfl) _ i j⟩))⟩, ?_⟩)
                  · repeat (first | exact trivial | refine ⟨by first | exact HeapOk.same rfl rfl rfl rfl | exact HeapOk.lent rfl rfl rfl rfl | exact HeapOk.nil rfl rfl | exact HeapOk.row rfl rfl (by first | rfl | omega) (fun i _ j _ => ⟨rfl, by first | rfl | exact rowN_imm (fun _ => rfl) _ i j | exact rowF_imm (fun _ => rfl) _ i j⟩) | exact HeapOk.box rfl rfl (by repeat (first | exact trivial | refine ⟨by first | exact LeC.refl _ rfl | exact LeC.ow _ _ rfl | exact LeC.nil _ rfl | exact LeC.nils _ _ | exact LeC.fz rfl rfl (by first | rfl | omega) (fun i _ j _ => ⟨rfl, by first | rfl | exact rowN_imm (fun _ => rfl) _ i j | exact rowF_imm (fun _ => rfl) _ i j⟩) | exact LeC.int (by omega), ?_⟩)) rfl, ?_⟩)
              | false =>
                rw [hib'] at hQ
                obtain ⟨rfl, rfl⟩ := Prod.mk.inj hQ
                repeat (first
                  | refine AWp.seq ?_
                  | refine thenA_n ?_
                  | refine AWp.skip ?_
                  | refine AWp.condF rfl (by first | rfl | assumption | exact cmF) ?_
                  | (refine AWp.region (id := 24) ?_; refine AList.move rfl rfl rfl ?_; refine AList.move rfl rfl rfl ?_; refine AList.skip rfl rfl ?_; refine AList.pickF rfl rfl rfl rfl ?_; refine AList.assign rfl rfl rfl ?_; refine AList.nil ?_)
                  | (refine AWp.region (id := 26) ?_; refine AList.move rfl rfl rfl ?_; refine AList.assign rfl rfl rfl ?_; refine AList.nil ?_)
                  | (refine AWp.region (id := 28) ?_; refine AList.move rfl rfl rfl ?_; refine AList.assign rfl rfl rfl ?_; refine AList.nil ?_))
                refine ⟨rfl, Wk.mk [(5, some 5), (6, some 6), (10, some 10), (13, some 13), (14, some 14), (15, some 15), (18, some 18), (60, some 60)] rfl rfl rfl ?_ ?_⟩
                · repeat (first | exact trivial | refine ⟨⟨_, rfl, by first | exact LeA.c (LeC.fn _ _ _ _ (fun i hi => absurd hi (Nat.not_lt_zero i)) (fun i hi => absurd hi (Nat.not_lt_zero i))) | exact LeA.c (LeC.refl _ rfl) | exact LeA.c (LeC.ow _ _ rfl) | exact LeA.c (LeC.pt _ _ _ _ _ rfl) | exact LeA.c (LeC.nil _ rfl) | exact LeA.c (LeC.nils _ _) | (refine LeA.int ?_; omega) | (refine LeA.int ?_; dsimp only; omega) | exact LeA.c (LeC.fz rfl rfl (by first | rfl | omega) (fun i _ j _ => ⟨rfl, by first | rfl | exact rowN_imm (fun _ => rfl) _ i j | exact rowF_imm (fun _ => rfl) _ i j⟩))⟩, ?_⟩)
                · repeat (first | exact trivial | refine ⟨by first | exact HeapOk.same rfl rfl rfl rfl | exact HeapOk.lent rfl rfl rfl rfl | exact HeapOk.nil rfl rfl | exact HeapOk.row rfl rfl (by first | rfl | omega) (fun i _ j _ => ⟨rfl, by first | rfl | exact rowN_imm (fun _ => rfl) _ i j | exact rowF_imm (fun _ => rfl) _ i j⟩) | exact HeapOk.box rfl rfl (by repeat (first | exact trivial | refine ⟨by first | exact LeC.refl _ rfl | exact LeC.ow _ _ rfl | exact LeC.nil _ rfl | exact LeC.nils _ _ | exact LeC.fz rfl rfl (by first | rfl | omega) (fun i _ j _ => ⟨rfl, by first | rfl | exact rowN_imm (fun _ => rfl) _ i j | exact rowF_imm (fun _ => rfl) _ i j⟩) | exact LeC.int (by omega), ?_⟩)) rfl, ?_⟩)
        repeat (first
          | refine thenA_n ?_
          | refine inBlk_n ?_
          | (refine AWp.region (id := 30) ?_; refine AList.fieldPt tyOk rfl rfl rfl rfl rfl rfl rfl ?_; refine AList.load1 tyOk rfl rfl rfl rfl rfl rfl rfl oM oM ?_; refine AList.move rfl rfl rfl ?_; refine AList.litSl tyOk rfl rfl rfl rfl rfl rfl rfl rfl rfl rfl rfl ?_; refine AList.appL tyOk rfl rfl rfl rfl rfl rfl rfl rfl rfl rfl oM oM ?_; refine AList.fieldPt tyOk rfl rfl rfl rfl rfl rfl rfl ?_; refine AList.store tyOk rfl rfl rfl rfl rfl rfl rfl rfl oM oM ?_; refine AList.nil ?_)
          | (refine AWp.region (id := 31) ?_; refine AList.add rfl rfl rfl rfl (by omega) (by omega) ?_; refine AList.move rfl rfl rfl ?_; refine AList.nil ?_))
        refine ⟨k + 1, hkN, Wk.mk [(5, some 5), (6, some 6), (10, some 10), (13, some 13), (14, some 14), (15, some 15), (18, some 18), (60, some 172)] rfl rfl rfl ?_ ?_, by omega⟩
        · repeat (first | exact trivial | refine ⟨⟨_, rfl, by first | exact LeA.c (LeC.fn _ _ _ _ (fun i hi => absurd hi (Nat.not_lt_zero i)) (fun i hi => absurd hi (Nat.not_lt_zero i))) | exact LeA.c (LeC.refl _ rfl) | exact LeA.c (LeC.ow _ _ rfl) | exact LeA.c (LeC.pt _ _ _ _ _ rfl) | exact LeA.c (LeC.nil _ rfl) | exact LeA.c (LeC.nils _ _) | (refine LeA.int ?_; omega) | (refine LeA.int ?_; dsimp only; omega) | exact LeA.c (LeC.fz rfl rfl (by first | rfl | omega) (fun i _ j _ => ⟨rfl, by first | rfl | exact rowN_imm (fun _ => rfl) _ i j | exact rowF_imm (fun _ => rfl) _ i j⟩))⟩, ?_⟩)
        · rw [hl1']
          exact ⟨HeapOk.same rfl rfl rfl rfl, HeapOk.same rfl rfl rfl rfl, HeapOk.same rfl rfl rfl rfl, HeapOk.same rfl rfl rfl rfl, HeapOk.same rfl rfl rfl rfl, HeapOk.same rfl rfl rfl rfl, HeapOk.box rfl rfl ⟨LeC.int rfl, LeC.int rfl, LeC.ow _ _ rfl, trivial⟩ rfl, HeapOk.row rfl rfl rfl (app_one (g' := fun i => iC (cmP ia ib u l0 i)) (fun i hi => rfl) (congrArg iC hv.symm) fun _ _ => rfl), trivial⟩
      · obtain rfl : k = N := by omega
        repeat (first
          | refine AWp.seq ?_
          | refine thenA_n ?_
          | refine AWp.exit ?_
          | refine AWp.ret ?_
          | refine AWp.condF rfl (by first | rfl | assumption | exact cmF) ?_
          | (refine AWp.region (id := 16) ?_; refine AList.cmpF rfl rfl rfl rfl rfl cmF ?_; refine AList.nil ?_)
          | (refine AWp.region (id := 32) ?_; refine AList.loadA tyOk rfl rfl rfl rfl rfl rfl rfl oM oM ?_; refine AList.store tyOk rfl rfl rfl rfl rfl rfl rfl rfl oM oM ?_; refine AList.assign rfl rfl rfl ?_; refine AList.nil ?_))
        refine ⟨mkSt 176 [(10, .c (.pt 10 3 0 0)), (11, .c (iC 0))] [(10, ⟨false, 1, 3, 52, lF (ipC (⟨a.W + 4, a.H + 4, k, cmP ia ib u l0⟩))⟩)] [10], [(10, ⟨false, 1, 3, 52, lF (ipC (⟨a.W + 4, a.H + 4, k, cmP ia ib u l0⟩))⟩)], Wk.mk [(10, some 10)] rfl rfl rfl ?_ ?_, rfl, rfl, ARets.two (x := .ag _) (y := .c _) (ARes.box tyOk rfl rfl rfl rfl rfl rfl rfl) (ARes.tmp rfl rfl)⟩
        · repeat (first | exact trivial | refine ⟨⟨_, rfl, by first | exact LeA.c (LeC.refl _ rfl) | exact LeA.c (LeC.ow _ _ rfl) | exact LeA.c (LeC.pt _ _ _ _ _ rfl) | exact LeA.c (LeC.nil _ rfl) | exact LeA.c (LeC.nils _ _) | (refine LeA.int ?_; omega) | (refine LeA.int ?_; dsimp only; omega) | exact LeA.c (LeC.fz rfl rfl (by first | rfl | omega) (fun i _ j _ => ⟨rfl, by first | rfl | exact rowN_imm (fun _ => rfl) _ i j | exact rowF_imm (fun _ => rfl) _ i j⟩))⟩, ?_⟩)
        · exact ⟨HeapOk.box rfl rfl ⟨LeC.int rfl, LeC.int rfl, LeC.fz rfl rfl rfl (fun i _ => cell1 ⟨rfl, rfl⟩), trivial⟩ rfl, trivial⟩
end Go.Proofs.Ytijaioiojclooaa
end
