/- Parts of the proof: ACv, A23t. -/
import Derived.Test.YtclaanggpcjnbaaG13
import Derived.Test.YtclaanggpcjnbaaG10
import Derived.Test.YtclaanggpcjnbaaG29
import Derived.Test.YtclaanggpcjnbaaG30
set_option linter.unusedSimpArgs false
set_option linter.unusedVariables false
section
/- Contracts at arguments that are written as literals. No condition. -/
namespace Go.AV
open Go Go.RowKit Go.Flow
section
variable {P : Program}
def Cv (x y : CV) : Prop := ∀ (σ : Nat → Option Value) (O : Nat → Prop) (w : World) (u : Value), RepC σ O w x u → RepC σ O w y u
theorem Cv.refl (x : CV) : Cv x x := fun _ _ _ _ h => h
theorem Cv.lit {n : Nat} {l : List CV} {G : Nat → Nat → CV} (h : (k : Nat) → k < n → sF l 1 k 0 = G k 0) : Cv (.ls n 1 (sF l 1)) (.ls n 1 G) := fun σ O w u hu => by
  refine ⟨hu.1, RepI.ls_congr (fun k hk j hj => ?_) hu.2⟩
  obtain rfl : j = 0 := by omega
  exact h k hk
theorem Cv.nil {sz : Nat} {F : Nat → Nat → CV} : Cv (.p (.slice none 0 0)) (.ls 0 sz F) := fun σ O w u hu => by
  obtain rfl : u = .slice none 0 0 := hu.2
  exact nil_rep
inductive CvV : V1 → V1 → Prop
  | c {x y : CV} (h : Cv x y) : CvV (.c x) (.c y)
  | ag {l m : List CV} (h : LeL Cv l m) : CvV (.ag l) (.ag m)
theorem CvV.rep {x y : V1} (h : CvV x y) {σ : Nat → Option Value} {O : Nat → Prop} {w : World} {u : Value} (hu : RepV σ O w x u) : RepV σ O w y u := by
  cases h with
  | c h => exact h _ _ _ _ hu
  | ag h =>
    obtain ⟨vs, e, hv⟩ := hu
    exact ⟨vs, e, h.get (fun _ _ _ h1 h2 => h1 _ _ _ _ h2) hv⟩
theorem CvL.rep : ∀ {l m : List V1}, LeL CvV l m → ∀ {σ : Nat → Option Value} {O : Nat → Prop} {w : World} {us : List Value}, RepL (RepV σ O w) l us → RepL (RepV σ O w) m us
  | [], [], _, _, _, _, [], _ => trivial
  | x :: l, y :: m, h, _, _, _, u :: us, hu => ⟨h.1.rep hu.1, CvL.rep h.2 hu.2⟩
  | [], _ :: _, h, _, _, _, _, _ => h.elim
  | _ :: _, [], h, _, _, _, _, _ => h.elim
  | [], [], _, _, _, _, _ :: _, hu => hu.elim
  | _ :: _, _ :: _, _, _, _, _, [], hu => hu.elim
theorem ACalls.cv {f : FuncId} {args args' : List V1} {r : AV} (h : ACalls P f args r) (hc : LeL CvV args' args) : ACalls P f args' r := h.conv fun _ _ _ _ hv => CvL.rep hc hv
end
end Go.AV
end

section
/- Chapter 23 over plain values: the law's sanity. -/
namespace Go.Proofs.Ytclaanggpcjnbaa
open Go.RowKit Go.Flow Go.AV Go.Plain
def sd (k : Nat) : Bool := [true, true, false, false, false, true].getD k false
abbrev sbp : Bp := ⟨3, 2, 6, sd⟩
abbrev smat : Mat := ⟨30, 10, ⟨1, 0, 0, 2⟩, ⟨2, 1, 1, 0⟩⟩
abbrev sh0 : Ht := ⟨0, 0, 0, fun _ => 0, 0, fun _ => 0, 0, 0⟩
abbrev sh1 : Ht := ⟨1, 0, 1, fun _ => 18, 1, fun _ => 0, 0, 0⟩
abbrev sh2 : Ht := ⟨0, 0, 1, fun _ => 15, 0, fun _ => 0, 0, 0⟩
abbrev sh3 : Ht := ⟨0, 0, 0, fun _ => 0, 0, fun _ => 0, 8, 8⟩
abbrev sbL : List CV := [iC 3, iC 2, .ls 6 1 (sF [bC true, bC true, bC false, bC false, bC false, bC true] 1)]
abbrev nilC : CV := .p (.slice none 0 0)
theorem sb_cv : LeL Cv sbL (bpC sbp) := ⟨Cv.refl _, Cv.refl _, Cv.lit fun k hk => match k, hk with
  | 0, _ => rfl
  | 1, _ => rfl
  | 2, _ => rfl
  | 3, _ => rfl
  | 4, _ => rfl
  | 5, _ => rfl, trivial⟩
theorem one_cv (i : Int) : Cv (.ls 1 1 (sF [iC i] 1)) (.ls 1 1 (iF fun _ => i)) := Cv.lit fun k hk => match k, hk with
  | 0, _ => rfl
theorem three_cv (i j k : Int) : Cv (.ls 3 1 (sF [iC i, iC j, iC k] 1)) (.ls 3 1 (iF fun n => [i, j, k].getD n 0)) := Cv.lit fun k hk => match k, hk with
  | 0, _ => rfl
  | 1, _ => rfl
  | 2, _ => rfl
def sf0 : Nat → Int := apF sbp sh0
def sf1 : Nat → Int := apF sbp sh1
theorem s_e0 : apE sbp sh0 = 0 := by kernel_rfl
theorem s_e1 : apE sbp sh1 = 0 := by kernel_rfl
theorem s_e2 : apE sbp sh2 = 1 := by kernel_rfl
theorem s_e3 : apE sbp sh3 = 1 := by kernel_rfl
theorem s_x1 : exV ⟨7, 6, 42, sf1⟩ sbp ⟨1, 1, 1, 0⟩ = (⟨1, 0, 1, 1⟩, true) := by kernel_rfl
theorem s_x2 : exV ⟨7, 6, 42, sf1⟩ sbp ⟨0, 1, 1, 0⟩ = (⟨0, 0, 0, 0⟩, false) := by kernel_rfl
theorem s_a0 : atV smat 0 = (⟨1, 0, 0, 2⟩, true) := by kernel_rfl
theorem s_a1 : atV smat 9 = (⟨1, 0, 0, 2⟩, true) := by kernel_rfl
theorem s_a2 : atV smat 10 = (⟨3, 1, 1, 2⟩, true) := by kernel_rfl
theorem s_a3 : atV smat 30 = (⟨7, 3, 2, 2⟩, true) := by kernel_rfl
theorem s_a4 : atV smat 31 = (bgZ, false) := by kernel_rfl
def sat (l : List Int) (k : Nat) : Nat := (l.filter fun i => decide (i < (k : Int))).length
def sdot (f : Nat → Int) (l : List Int) : Bool := (List.range 42).all fun k => decide ((sat l k < 3 ∧ l.getD (sat l k) 0 = (k : Int) ∧ f k = 1 ∧ sat l (k + 1) = sat l k + 1) ∨ (sat l k < 3 ∧ l.getD (sat l k) 0 ≠ (k : Int) ∧ f k = 0 ∧ sat l (k + 1) = sat l k) ∨ (sat l k = 3 ∧ f k = 0 ∧ sat l (k + 1) = sat l k))
theorem s_d0 : sdot sf0 [16, 17, 25] = true := by kernel_rfl
theorem s_d1 : sdot sf1 [0, 17, 26] = true := by kernel_rfl
theorem sdots (f : Nat → Int) (i j k : Int) (h0 : sat [i, j, k] 0 = 0) (h : sdot f [i, j, k] = true) : ACalls Try.prog 28 [.ag (imgV 7 6 42 f), .c (.ls 3 1 (sF [iC i, iC j, iC k] 1))] (.c (bC true)) :=
  (dots_A f 3 (fun n => [i, j, k].getD n 0) (sat [i, j, k]) (by decide) h0 fun n hn => of_decide_eq_true (List.all_eq_true.1 h n (List.mem_range.2 hn))).cv ⟨.ag ⟨Cv.refl _, Cv.refl _, Cv.refl _, trivial⟩, .c (three_cv i j k), trivial⟩
theorem bg_neS (r : Bg) (w : World) : (Go.binOp .neq 24 (.agg #[.int .i64 r.lo, .int .i64 r.bl, .int .i64 r.sh, .int .i64 r.st]) (.agg #[.int .i64 r.lo, .int .i64 r.bl, .int .i64 r.sh, .int .i64 r.st])).run Try.prog w = .ok (.bool false) w := bg_neF rfl w
instance : DecidableEq Mc := fun r s =>
  if h : r.dx = s.dx ∧ r.dy = s.dy ∧ r.lo = s.lo ∧ r.bl = s.bl then isTrue (by cases r; cases s; simp_all) else isFalse fun e => h (by subst e; exact ⟨rfl, rfl, rfl, rfl⟩)
abbrev mcV (r : Mc) : Value := .agg #[.int .i64 r.dx, .int .i64 r.dy, .int .i64 r.lo, .int .i64 r.bl]
theorem mc_eq (r s : Mc) (w : World) : (Go.binOp .eql 52 (mcV r) (mcV s)).run Try.prog w = .ok (.bool (decide (r = s))) w := by
  have hp : Try.prog.stoodInHeld 52 = false := by kernel_rfl
  obtain ⟨a0, a1, a2, a3⟩ := r
  obtain ⟨b0, b1, b2, b3⟩ := s
  go_simp
  by_cases e0 : a0 = b0 <;> by_cases e1 : a1 = b1 <;> by_cases e2 : a2 = b2 <;> by_cases e3 : a3 = b3 <;> simp [e0, e1, e2, e3]
theorem mc_ne (r s : Mc) (w : World) : (Go.binOp .neq 52 (mcV r) (mcV s)).run Try.prog w = .ok (.bool (!decide (r = s))) w := by
  have hp : Try.prog.stoodInHeld 52 = false := by kernel_rfl
  obtain ⟨a0, a1, a2, a3⟩ := r
  obtain ⟨b0, b1, b2, b3⟩ := s
  go_simp
  by_cases e0 : a0 = b0 <;> by_cases e1 : a1 = b1 <;> by_cases e2 : a2 = b2 <;> by_cases e3 : a3 = b3 <;> simp [e0, e1, e2, e3]
theorem mc_eqS (r : Mc) (w : World) : (Go.binOp .eql 52 (mcV r) (mcV r)).run Try.prog w = .ok (.bool true) w := by
  rw [mc_eq, decide_eq_true rfl]
theorem mc_neS (r : Mc) (w : World) : (Go.binOp .neq 52 (mcV r) (mcV r)).run Try.prog w = .ok (.bool false) w := by
  rw [mc_ne, decide_eq_true rfl]; rfl
set_option maxHeartbeats 2000000 in
set_option maxRecDepth 100000 in
theorem sanity_A : ACalls Try.prog 9 [] (.c (bC true)) := by
  have hA4 := pAt_A smat 31
  rw [s_a4] at hA4
  have hP0 : ACalls Try.prog 24 [.ag sbL, .ag [iC 0, iC 0, nilC, nilC, iC 0, iC 0]] (.tu [.ag (imgV 7 6 42 sf0), .c (iC 0)]) := by
    have h := pApply_A sbp sh0 (by decide) (by decide)
    rw [apV, apI, if_pos s_e0, s_e0] at h
    exact h.cv ⟨.ag sb_cv, .ag ⟨Cv.refl _, Cv.refl _, Cv.nil, Cv.nil, Cv.refl _, Cv.refl _, trivial⟩, trivial⟩
  have hP1 : ACalls Try.prog 24 [.ag sbL, .ag [iC 1, iC 0, .ls 1 1 (sF [iC 18] 1), .ls 1 1 (sF [iC 0] 1), iC 0, iC 0]] (.tu [.ag (imgV 7 6 42 sf1), .c (iC 0)]) := by
    have h := pApply_A sbp sh1 (by decide) (by decide)
    rw [apV, apI, if_pos s_e1, s_e1] at h
    exact h.cv ⟨.ag sb_cv, .ag ⟨Cv.refl _, Cv.refl _, one_cv 18, one_cv 0, Cv.refl _, Cv.refl _, trivial⟩, trivial⟩
  have hP2 : ACalls Try.prog 24 [.ag sbL, .ag [iC 0, iC 0, .ls 1 1 (sF [iC 15] 1), nilC, iC 0, iC 0]] (.tu [.ag (imgV 0 0 0 fun _ => 0), .c (iC 1)]) := by
    have h := pApply_A sbp sh2 (by decide) (by decide)
    rw [apV, apI, if_neg (by rw [s_e2]; decide), s_e2] at h
    exact h.cv ⟨.ag sb_cv, .ag ⟨Cv.refl _, Cv.refl _, one_cv 15, Cv.nil, Cv.refl _, Cv.refl _, trivial⟩, trivial⟩
  have hP3 : ACalls Try.prog 24 [.ag sbL, .ag [iC 0, iC 0, nilC, nilC, iC 8, iC 8]] (.tu [.ag (imgV 0 0 0 fun _ => 0), .c (iC 1)]) := by
    have h := pApply_A sbp sh3 (by decide) (by decide)
    rw [apV, apI, if_neg (by rw [s_e3]; decide), s_e3] at h
    exact h.cv ⟨.ag sb_cv, .ag ⟨Cv.refl _, Cv.refl _, Cv.nil, Cv.nil, Cv.refl _, Cv.refl _, trivial⟩, trivial⟩
  have hX1 : ACalls Try.prog 20 [.ag (imgV 7 6 42 sf1), .ag sbL, .ag [iC 1, iC 1, iC 1, iC 0]] (.tu [.ag (mcC ⟨1, 0, 1, 1⟩), .c (bC true)]) := by
    have h := pExplains_A ⟨7, 6, 42, sf1⟩ sbp ⟨1, 1, 1, 0⟩ (by decide)
    rw [s_x1] at h
    exact h.cv ⟨.ag ⟨Cv.refl _, Cv.refl _, Cv.refl _, trivial⟩, .ag sb_cv, .ag ⟨Cv.refl _, Cv.refl _, Cv.refl _, Cv.refl _, trivial⟩, trivial⟩
  have hX2 : ACalls Try.prog 20 [.ag (imgV 7 6 42 sf1), .ag sbL, .ag [iC 0, iC 1, iC 1, iC 0]] (.tu [.ag (mcC ⟨0, 0, 0, 0⟩), .c (bC false)]) := by
    have h := pExplains_A ⟨7, 6, 42, sf1⟩ sbp ⟨0, 1, 1, 0⟩ (by decide)
    rw [s_x2] at h
    exact h.cv ⟨.ag ⟨Cv.refl _, Cv.refl _, Cv.refl _, trivial⟩, .ag sb_cv, .ag ⟨Cv.refl _, Cv.refl _, Cv.refl _, Cv.refl _, trivial⟩, trivial⟩
  have hD0 := sdots sf0 16 17 25 rfl s_d0
  have hD1 := sdots sf1 0 17 26 rfl s_d1
  have hC1 := pMat_A smat
  rw [show matE smat = 0 from rfl] at hC1
  have hC2 := pMat_A ⟨0, 0, ⟨0, 0, 0, 0⟩, ⟨0, 0, 0, 0⟩⟩
  rw [show matE ⟨0, 0, ⟨0, 0, 0, 0⟩, ⟨0, 0, 0, 0⟩⟩ = 3 from rfl] at hC2
  refine acalls_at Try.func9 rfl rfl Try.ntmps9 rfl ?_
  repeat (first
    | refine AWp.seq ?_
    | refine thenA_n ?_
    | refine AWp.block ?_
    | (refine AWp.region (id := 0) ?_
       refine AList.assign rfl rfl rfl ?_
       refine AList.nil ?_)
    | (refine AWp.region (id := 1) ?_
       refine AList.litSl tyOk rfl rfl rfl rfl rfl rfl rfl rfl rfl rfl rfl ?_
       refine AList.buildSt tyOk rfl rfl rfl rfl rfl rfl rfl rfl ?_
       refine AList.alloc tyOk rfl rfl rfl rfl rfl ?_
       refine AList.store tyOk rfl rfl rfl rfl rfl rfl rfl rfl oM oM ?_
       refine AList.nil ?_)
    | (refine AWp.region (id := 2) ?_
       refine AList.buildSt tyOk rfl rfl rfl rfl rfl rfl rfl rfl ?_
       refine AList.buildSt tyOk rfl rfl rfl rfl rfl rfl rfl rfl ?_
       refine AList.buildSt tyOk rfl rfl rfl rfl rfl rfl rfl rfl ?_
       refine AList.alloc tyOk rfl rfl rfl rfl rfl ?_
       refine AList.store tyOk rfl rfl rfl rfl rfl rfl rfl rfl oM oM ?_
       refine AList.nil ?_)
    | (refine AWp.region (id := 3) ?_
       refine AList.buildSt tyOk rfl rfl rfl rfl rfl rfl rfl rfl ?_
       refine AList.buildSt tyOk rfl rfl rfl rfl rfl rfl rfl rfl ?_
       refine AList.buildSt tyOk rfl rfl rfl rfl rfl rfl rfl rfl ?_
       refine AList.buildSt tyOk rfl rfl rfl rfl rfl rfl rfl rfl ?_
       refine AList.litSl tyOk rfl rfl rfl rfl rfl rfl rfl rfl rfl rfl rfl ?_
       refine AList.lenLs tyOk rfl rfl rfl rfl rfl ?_
       refine AList.move rfl rfl rfl ?_
       refine AList.nil ?_))
  refine AWp.round (fun k : Nat => mkSt 147 [(1, .c (.pt 1 3 0 0)), (2, .c (.pt 2 10 0 0)), (30, .c (.ls 4 4 (sF (bgC ⟨1, 0, 0, 2⟩ ++ bgC ⟨1, 0, 0, 2⟩ ++ bgC ⟨3, 1, 1, 2⟩ ++ bgC ⟨7, 3, 2, 2⟩) 4))), (31, .c (iC 4)), (32, .c (iC k))]
    [(1, ⟨false, 1, 3, 39, lF sbL⟩), (2, ⟨false, 1, 10, 26, lF (matC smat)⟩)] [1, 2])
    (fun k => k ≤ 4) (fun k => 4 - k) 0 (Nat.zero_le _) ?_ (fun k hk => ?_)
  · refine Wk.mk [(1, some 1), (2, some 2)] rfl rfl rfl ?_ ?_
    · repeat (first | exact trivial | refine ⟨⟨_, rfl, by first | exact LeA.c (LeC.refl _ rfl) | exact LeA.c (LeC.ow _ _ rfl) | exact LeA.c (LeC.pt _ _ _ _ _ rfl) | exact LeA.c (LeC.nil _ rfl) | exact LeA.c (LeC.nils _ _) | (refine LeA.int ?_; omega) | (refine LeA.int ?_; dsimp only; omega) | exact LeA.c (LeC.fz rfl rfl (by first | rfl | omega) (fun i _ j _ => ⟨rfl, by first | rfl | exact rowN_imm (fun _ => rfl) _ i j | exact rowF_imm (fun _ => rfl) _ i j⟩))⟩, ?_⟩)
    · repeat (first | exact trivial | refine ⟨by first | exact HeapOk.same rfl rfl rfl rfl | exact HeapOk.lent rfl rfl rfl rfl | exact HeapOk.nil rfl rfl | exact HeapOk.row rfl rfl (by first | rfl | omega) (fun i _ j _ => ⟨rfl, by first | rfl | exact rowN_imm (fun _ => rfl) _ i j | exact rowF_imm (fun _ => rfl) _ i j⟩) | exact HeapOk.box rfl rfl (by repeat (first | exact trivial | refine ⟨by first | exact LeC.refl _ rfl | exact LeC.ow _ _ rfl | exact LeC.nil _ rfl | exact LeC.nils _ _ | exact LeC.fz rfl rfl (by first | rfl | omega) (fun i _ j _ => ⟨rfl, by first | rfl | exact rowN_imm (fun _ => rfl) _ i j | exact rowF_imm (fun _ => rfl) _ i j⟩) | exact LeC.int (by omega), ?_⟩)) rfl, ?_⟩)
  · obtain rfl | rfl | rfl | rfl | rfl : k = 0 ∨ k = 1 ∨ k = 2 ∨ k = 3 ∨ k = 4 := by omega
    · have hA := pAt_A smat 0
      rw [s_a0] at hA
      repeat (first
        | refine AWp.seq ?_
        | refine thenA_n ?_
        | refine AWp.block ?_
        | refine AWp.skip ?_
        | refine inBlk_n ?_
        | refine AWp.condT rfl (by first | rfl | assumption | exact cmT) ?_
        | refine AWp.condF rfl (by first | rfl | assumption | exact cmF) ?_
        | (refine AWp.region (id := 4) ?_
           refine AList.cmpT rfl rfl rfl rfl rfl cmT ?_
           refine AList.nil ?_)
        | (refine AWp.region (id := 5) ?_
           refine AList.move rfl rfl rfl ?_
           refine AList.idx (k := 0) tyOk rfl rfl rfl rfl rfl rfl rfl rfl (by first | rfl | omega) oM oM ?_
           refine AList.loadAl tyOk rfl rfl rfl rfl rfl oM ?_
           refine AList.alloc tyOk rfl rfl rfl rfl rfl ?_
           refine AList.assign rfl rfl rfl ?_
           refine AList.store tyOk rfl rfl rfl rfl rfl rfl rfl rfl oM oM ?_
           refine AList.nil ?_)
        | (refine AWp.draw (id := 6) mixed ?_
           refine AList.loadA tyOk rfl rfl rfl rfl rfl rfl rfl oM oM ?_
           refine AList.litSl tyOk rfl rfl rfl rfl rfl rfl rfl rfl rfl rfl rfl ?_
           refine AList.move rfl rfl rfl ?_
           refine AList.idx (k := 0) tyOk rfl rfl rfl rfl rfl rfl rfl rfl (by first | rfl | omega) oM oM ?_
           refine AList.load1l tyOk rfl rfl rfl rfl rfl oM ?_
           refine AList.call rfl rfl rfl rfl Try.func12 rfl (by kernel_rfl) (hA) ?_
           refine AList.move rfl rfl rfl ?_
           refine AList.extract rfl rfl rfl rfl ?_
           refine AList.extract rfl rfl rfl rfl ?_
           refine AList.alloc tyOk rfl rfl rfl rfl rfl ?_
           refine AList.store tyOk rfl rfl rfl rfl rfl rfl rfl rfl oM oM ?_
           refine AList.assign rfl rfl rfl ?_
           refine AList.nil ⟨by kernel_rfl, ?_⟩)
        | (refine AWp.region (id := 7) ?_
           refine AList.move rfl rfl rfl ?_
           refine AList.notB rfl rfl rfl ?_
           refine AList.move rfl rfl rfl ?_
           refine AList.loadA tyOk rfl rfl rfl rfl rfl rfl rfl oM oM ?_
           refine AList.loadA tyOk rfl rfl rfl rfl rfl rfl rfl oM oM ?_
           refine AList.binAg rfl rfl rfl rfl rfl rfl (by kernel_rfl) (bg_neS _) ?_
           refine AList.pickF rfl rfl rfl rfl ?_
           refine AList.nil ?_)
        | (refine AWp.region (id := 9) ?_
           refine AList.add rfl rfl rfl rfl (by omega) (by omega) ?_
           refine AList.move rfl rfl rfl ?_
           refine AList.nil ?_))
      refine ⟨0 + 1, by omega, Wk.mk [(1, some 1), (2, some 2)] rfl rfl rfl ?_ ?_, by omega⟩
      · repeat (first | exact trivial | refine ⟨⟨_, rfl, by first | exact LeA.c (LeC.refl _ rfl) | exact LeA.c (LeC.ow _ _ rfl) | exact LeA.c (LeC.pt _ _ _ _ _ rfl) | exact LeA.c (LeC.nil _ rfl) | exact LeA.c (LeC.nils _ _) | (refine LeA.int ?_; omega) | (refine LeA.int ?_; dsimp only; omega) | exact LeA.c (LeC.fz rfl rfl (by first | rfl | omega) (fun i _ j _ => ⟨rfl, by first | rfl | exact rowN_imm (fun _ => rfl) _ i j | exact rowF_imm (fun _ => rfl) _ i j⟩))⟩, ?_⟩)
      · repeat (first | exact trivial | refine ⟨by first | exact HeapOk.same rfl rfl rfl rfl | exact HeapOk.lent rfl rfl rfl rfl | exact HeapOk.nil rfl rfl | exact HeapOk.row rfl rfl (by first | rfl | omega) (fun i _ j _ => ⟨rfl, by first | rfl | exact rowN_imm (fun _ => rfl) _ i j | exact rowF_imm (fun _ => rfl) _ i j⟩) | exact HeapOk.box rfl rfl (by repeat (first | exact trivial | refine ⟨by first | exact LeC.refl _ rfl | exact LeC.ow _ _ rfl | exact LeC.nil _ rfl | exact LeC.nils _ _ | exact LeC.fz rfl rfl (by first | rfl | omega) (fun i _ j _ => ⟨rfl, by first | rfl | exact rowN_imm (fun _ => rfl) _ i j | exact rowF_imm (fun _ => rfl) _ i j⟩) | exact LeC.int (by omega), ?_⟩)) rfl, ?_⟩)
    · have hA := pAt_A smat 9
      rw [s_a1] at hA
      repeat (first
        | refine AWp.seq ?_
        | refine thenA_n ?_
        | refine AWp.block ?_
        | refine AWp.skip ?_
        | refine inBlk_n ?_
        | refine AWp.condT rfl (by first | rfl | assumption | exact cmT) ?_
        | refine AWp.condF rfl (by first | rfl | assumption | exact cmF) ?_
        | (refine AWp.region (id := 4) ?_
           refine AList.cmpT rfl rfl rfl rfl rfl cmT ?_
           refine AList.nil ?_)
        | (refine AWp.region (id := 5) ?_
           refine AList.move rfl rfl rfl ?_
           refine AList.idx (k := 1) tyOk rfl rfl rfl rfl rfl rfl rfl rfl (by first | rfl | omega) oM oM ?_
           refine AList.loadAl tyOk rfl rfl rfl rfl rfl oM ?_
           refine AList.alloc tyOk rfl rfl rfl rfl rfl ?_
           refine AList.assign rfl rfl rfl ?_
           refine AList.store tyOk rfl rfl rfl rfl rfl rfl rfl rfl oM oM ?_
           refine AList.nil ?_)
        | (refine AWp.draw (id := 6) mixed ?_
           refine AList.loadA tyOk rfl rfl rfl rfl rfl rfl rfl oM oM ?_
           refine AList.litSl tyOk rfl rfl rfl rfl rfl rfl rfl rfl rfl rfl rfl ?_
           refine AList.move rfl rfl rfl ?_
           refine AList.idx (k := 1) tyOk rfl rfl rfl rfl rfl rfl rfl rfl (by first | rfl | omega) oM oM ?_
           refine AList.load1l tyOk rfl rfl rfl rfl rfl oM ?_
           refine AList.call rfl rfl rfl rfl Try.func12 rfl (by kernel_rfl) (hA) ?_
           refine AList.move rfl rfl rfl ?_
           refine AList.extract rfl rfl rfl rfl ?_
           refine AList.extract rfl rfl rfl rfl ?_
           refine AList.alloc tyOk rfl rfl rfl rfl rfl ?_
           refine AList.store tyOk rfl rfl rfl rfl rfl rfl rfl rfl oM oM ?_
           refine AList.assign rfl rfl rfl ?_
           refine AList.nil ⟨by kernel_rfl, ?_⟩)
        | (refine AWp.region (id := 7) ?_
           refine AList.move rfl rfl rfl ?_
           refine AList.notB rfl rfl rfl ?_
           refine AList.move rfl rfl rfl ?_
           refine AList.loadA tyOk rfl rfl rfl rfl rfl rfl rfl oM oM ?_
           refine AList.loadA tyOk rfl rfl rfl rfl rfl rfl rfl oM oM ?_
           refine AList.binAg rfl rfl rfl rfl rfl rfl (by kernel_rfl) (bg_neS _) ?_
           refine AList.pickF rfl rfl rfl rfl ?_
           refine AList.nil ?_)
        | (refine AWp.region (id := 9) ?_
           refine AList.add rfl rfl rfl rfl (by omega) (by omega) ?_
           refine AList.move rfl rfl rfl ?_
           refine AList.nil ?_))
      refine ⟨1 + 1, by omega, Wk.mk [(1, some 1), (2, some 2)] rfl rfl rfl ?_ ?_, by omega⟩
      · repeat (first | exact trivial | refine ⟨⟨_, rfl, by first | exact LeA.c (LeC.refl _ rfl) | exact LeA.c (LeC.ow _ _ rfl) | exact LeA.c (LeC.pt _ _ _ _ _ rfl) | exact LeA.c (LeC.nil _ rfl) | exact LeA.c (LeC.nils _ _) | (refine LeA.int ?_; omega) | (refine LeA.int ?_; dsimp only; omega) | exact LeA.c (LeC.fz rfl rfl (by first | rfl | omega) (fun i _ j _ => ⟨rfl, by first | rfl | exact rowN_imm (fun _ => rfl) _ i j | exact rowF_imm (fun _ => rfl) _ i j⟩))⟩, ?_⟩)
      · repeat (first | exact trivial | refine ⟨by first | exact HeapOk.same rfl rfl rfl rfl | exact HeapOk.lent rfl rfl rfl rfl | exact HeapOk.nil rfl rfl | exact HeapOk.row rfl rfl (by first | rfl | omega) (fun i _ j _ => ⟨rfl, by first | rfl | exact rowN_imm (fun _ => rfl) _ i j | exact rowF_imm (fun _ => rfl) _ i j⟩) | exact HeapOk.box rfl rfl (by repeat (first | exact trivial | refine ⟨by first | exact LeC.refl _ rfl | exact LeC.ow _ _ rfl | exact LeC.nil _ rfl | exact LeC.nils _ _ | exact LeC.fz rfl rfl (by first | rfl | omega) (fun i _ j _ => ⟨rfl, by first | rfl | exact rowN_imm (fun _ => rfl) _ i j | exact rowF_imm (fun _ => rfl) _ i j⟩) | exact LeC.int (by omega), ?_⟩)) rfl, ?_⟩)
    · have hA := pAt_A smat 10
      rw [s_a2] at hA
      repeat (first
        | refine AWp.seq ?_
        | refine thenA_n ?_
        | refine AWp.block ?_
        | refine AWp.skip ?_
        | refine inBlk_n ?_
        | refine AWp.condT rfl (by first | rfl | assumption | exact cmT) ?_
        | refine AWp.condF rfl (by first | rfl | assumption | exact cmF) ?_
        | (refine AWp.region (id := 4) ?_
           refine AList.cmpT rfl rfl rfl rfl rfl cmT ?_
           refine AList.nil ?_)
        | (refine AWp.region (id := 5) ?_
           refine AList.move rfl rfl rfl ?_
           refine AList.idx (k := 2) tyOk rfl rfl rfl rfl rfl rfl rfl rfl (by first | rfl | omega) oM oM ?_
           refine AList.loadAl tyOk rfl rfl rfl rfl rfl oM ?_
           refine AList.alloc tyOk rfl rfl rfl rfl rfl ?_
           refine AList.assign rfl rfl rfl ?_
           refine AList.store tyOk rfl rfl rfl rfl rfl rfl rfl rfl oM oM ?_
           refine AList.nil ?_)
        | (refine AWp.draw (id := 6) mixed ?_
           refine AList.loadA tyOk rfl rfl rfl rfl rfl rfl rfl oM oM ?_
           refine AList.litSl tyOk rfl rfl rfl rfl rfl rfl rfl rfl rfl rfl rfl ?_
           refine AList.move rfl rfl rfl ?_
           refine AList.idx (k := 2) tyOk rfl rfl rfl rfl rfl rfl rfl rfl (by first | rfl | omega) oM oM ?_
           refine AList.load1l tyOk rfl rfl rfl rfl rfl oM ?_
           refine AList.call rfl rfl rfl rfl Try.func12 rfl (by kernel_rfl) (hA) ?_
           refine AList.move rfl rfl rfl ?_
           refine AList.extract rfl rfl rfl rfl ?_
           refine AList.extract rfl rfl rfl rfl ?_
           refine AList.alloc tyOk rfl rfl rfl rfl rfl ?_
           refine AList.store tyOk rfl rfl rfl rfl rfl rfl rfl rfl oM oM ?_
           refine AList.assign rfl rfl rfl ?_
           refine AList.nil ⟨by kernel_rfl, ?_⟩)
        | (refine AWp.region (id := 7) ?_
           refine AList.move rfl rfl rfl ?_
           refine AList.notB rfl rfl rfl ?_
           refine AList.move rfl rfl rfl ?_
           refine AList.loadA tyOk rfl rfl rfl rfl rfl rfl rfl oM oM ?_
           refine AList.loadA tyOk rfl rfl rfl rfl rfl rfl rfl oM oM ?_
           refine AList.binAg rfl rfl rfl rfl rfl rfl (by kernel_rfl) (bg_neS _) ?_
           refine AList.pickF rfl rfl rfl rfl ?_
           refine AList.nil ?_)
        | (refine AWp.region (id := 9) ?_
           refine AList.add rfl rfl rfl rfl (by omega) (by omega) ?_
           refine AList.move rfl rfl rfl ?_
           refine AList.nil ?_))
      refine ⟨2 + 1, by omega, Wk.mk [(1, some 1), (2, some 2)] rfl rfl rfl ?_ ?_, by omega⟩
      · repeat (first | exact trivial | refine ⟨⟨_, rfl, by first | exact LeA.c (LeC.refl _ rfl) | exact LeA.c (LeC.ow _ _ rfl) | exact LeA.c (LeC.pt _ _ _ _ _ rfl) | exact LeA.c (LeC.nil _ rfl) | exact LeA.c (LeC.nils _ _) | (refine LeA.int ?_; omega) | (refine LeA.int ?_; dsimp only; omega) | exact LeA.c (LeC.fz rfl rfl (by first | rfl | omega) (fun i _ j _ => ⟨rfl, by first | rfl | exact rowN_imm (fun _ => rfl) _ i j | exact rowF_imm (fun _ => rfl) _ i j⟩))⟩, ?_⟩)
      · repeat (first | exact trivial | refine ⟨by first | exact HeapOk.same rfl rfl rfl rfl | exact HeapOk.lent rfl rfl rfl rfl | exact HeapOk.nil rfl rfl | exact HeapOk.row rfl rfl (by first | rfl | omega) (fun i _ j _ => ⟨rfl, by first | rfl | exact rowN_imm (fun _ => rfl) _ i j | exact rowF_imm (fun _ => rfl) _ i j⟩) | exact HeapOk.box rfl rfl (by repeat (first | exact trivial | refine ⟨by first | exact LeC.refl _ rfl | exact LeC.ow _ _ rfl | exact LeC.nil _ rfl | exact LeC.nils _ _ | exact LeC.fz rfl rfl (by first | rfl | omega) (fun i _ j _ => ⟨rfl, by first | rfl | exact rowN_imm (fun _ => rfl) _ i j | exact rowF_imm (fun _ => rfl) _ i j⟩) | exact LeC.int (by omega), ?_⟩)) rfl, ?_⟩)
    · have hA := pAt_A smat 30
      rw [s_a3] at hA
      repeat (first
        | refine AWp.seq ?_
        | refine thenA_n ?_
        | refine AWp.block ?_
        | refine AWp.skip ?_
        | refine inBlk_n ?_
        | refine AWp.condT rfl (by first | rfl | assumption | exact cmT) ?_
        | refine AWp.condF rfl (by first | rfl | assumption | exact cmF) ?_
        | (refine AWp.region (id := 4) ?_
           refine AList.cmpT rfl rfl rfl rfl rfl cmT ?_
           refine AList.nil ?_)
        | (refine AWp.region (id := 5) ?_
           refine AList.move rfl rfl rfl ?_
           refine AList.idx (k := 3) tyOk rfl rfl rfl rfl rfl rfl rfl rfl (by first | rfl | omega) oM oM ?_
           refine AList.loadAl tyOk rfl rfl rfl rfl rfl oM ?_
           refine AList.alloc tyOk rfl rfl rfl rfl rfl ?_
           refine AList.assign rfl rfl rfl ?_
           refine AList.store tyOk rfl rfl rfl rfl rfl rfl rfl rfl oM oM ?_
           refine AList.nil ?_)
        | (refine AWp.draw (id := 6) mixed ?_
           refine AList.loadA tyOk rfl rfl rfl rfl rfl rfl rfl oM oM ?_
           refine AList.litSl tyOk rfl rfl rfl rfl rfl rfl rfl rfl rfl rfl rfl ?_
           refine AList.move rfl rfl rfl ?_
           refine AList.idx (k := 3) tyOk rfl rfl rfl rfl rfl rfl rfl rfl (by first | rfl | omega) oM oM ?_
           refine AList.load1l tyOk rfl rfl rfl rfl rfl oM ?_
           refine AList.call rfl rfl rfl rfl Try.func12 rfl (by kernel_rfl) (hA) ?_
           refine AList.move rfl rfl rfl ?_
           refine AList.extract rfl rfl rfl rfl ?_
           refine AList.extract rfl rfl rfl rfl ?_
           refine AList.alloc tyOk rfl rfl rfl rfl rfl ?_
           refine AList.store tyOk rfl rfl rfl rfl rfl rfl rfl rfl oM oM ?_
           refine AList.assign rfl rfl rfl ?_
           refine AList.nil ⟨by kernel_rfl, ?_⟩)
        | (refine AWp.region (id := 7) ?_
           refine AList.move rfl rfl rfl ?_
           refine AList.notB rfl rfl rfl ?_
           refine AList.move rfl rfl rfl ?_
           refine AList.loadA tyOk rfl rfl rfl rfl rfl rfl rfl oM oM ?_
           refine AList.loadA tyOk rfl rfl rfl rfl rfl rfl rfl oM oM ?_
           refine AList.binAg rfl rfl rfl rfl rfl rfl (by kernel_rfl) (bg_neS _) ?_
           refine AList.pickF rfl rfl rfl rfl ?_
           refine AList.nil ?_)
        | (refine AWp.region (id := 9) ?_
           refine AList.add rfl rfl rfl rfl (by omega) (by omega) ?_
           refine AList.move rfl rfl rfl ?_
           refine AList.nil ?_))
      refine ⟨3 + 1, by omega, Wk.mk [(1, some 1), (2, some 2)] rfl rfl rfl ?_ ?_, by omega⟩
      · repeat (first | exact trivial | refine ⟨⟨_, rfl, by first | exact LeA.c (LeC.refl _ rfl) | exact LeA.c (LeC.ow _ _ rfl) | exact LeA.c (LeC.pt _ _ _ _ _ rfl) | exact LeA.c (LeC.nil _ rfl) | exact LeA.c (LeC.nils _ _) | (refine LeA.int ?_; omega) | (refine LeA.int ?_; dsimp only; omega) | exact LeA.c (LeC.fz rfl rfl (by first | rfl | omega) (fun i _ j _ => ⟨rfl, by first | rfl | exact rowN_imm (fun _ => rfl) _ i j | exact rowF_imm (fun _ => rfl) _ i j⟩))⟩, ?_⟩)
      · repeat (first | exact trivial | refine ⟨by first | exact HeapOk.same rfl rfl rfl rfl | exact HeapOk.lent rfl rfl rfl rfl | exact HeapOk.nil rfl rfl | exact HeapOk.row rfl rfl (by first | rfl | omega) (fun i _ j _ => ⟨rfl, by first | rfl | exact rowN_imm (fun _ => rfl) _ i j | exact rowF_imm (fun _ => rfl) _ i j⟩) | exact HeapOk.box rfl rfl (by repeat (first | exact trivial | refine ⟨by first | exact LeC.refl _ rfl | exact LeC.ow _ _ rfl | exact LeC.nil _ rfl | exact LeC.nils _ _ | exact LeC.fz rfl rfl (by first | rfl | omega) (fun i _ j _ => ⟨rfl, by first | rfl | exact rowN_imm (fun _ => rfl) _ i j | exact rowF_imm (fun _ => rfl) _ i j⟩) | exact LeC.int (by omega), ?_⟩)) rfl, ?_⟩)
    · repeat (first
        | refine AWp.seq ?_
        | refine thenA_n ?_
        | refine AWp.skip ?_
        | refine AWp.exit ?_
        | refine AWp.ret ?_
        | refine AWp.condF rfl (by first | rfl | assumption | exact cmF) ?_
        | (refine AWp.region (id := 4) ?_
           refine AList.cmpF rfl rfl rfl rfl rfl cmF ?_
           refine AList.nil ?_)
        | (refine AWp.region (id := 10) ?_
           refine AList.loadA tyOk rfl rfl rfl rfl rfl rfl rfl oM oM ?_
           refine AList.call rfl rfl rfl rfl Try.func12 rfl (by kernel_rfl) (hA4) ?_
           refine AList.move rfl rfl rfl ?_
           refine AList.extract rfl rfl rfl rfl ?_
           refine AList.extract rfl rfl rfl rfl ?_
           refine AList.alloc tyOk rfl rfl rfl rfl rfl ?_
           refine AList.store tyOk rfl rfl rfl rfl rfl rfl rfl rfl oM oM ?_
           refine AList.assign rfl rfl rfl ?_
           refine AList.nil ?_)
        | (refine AWp.region (id := 11) ?_
           refine AList.loadA tyOk rfl rfl rfl rfl rfl rfl rfl oM oM ?_
           refine AList.buildSt tyOk rfl rfl rfl rfl rfl rfl rfl rfl ?_
           refine AList.call rfl rfl rfl rfl Try.func24 rfl (by kernel_rfl) (hP0) ?_
           refine AList.move rfl rfl rfl ?_
           refine AList.extract rfl rfl rfl rfl ?_
           refine AList.extract rfl rfl rfl rfl ?_
           refine AList.alloc tyOk rfl rfl rfl rfl rfl ?_
           refine AList.store tyOk rfl rfl rfl rfl rfl rfl rfl rfl oM oM ?_
           refine AList.assign rfl rfl rfl ?_
           refine AList.nil ?_)
        | (refine AWp.region (id := 12) ?_
           refine AList.loadA tyOk rfl rfl rfl rfl rfl rfl rfl oM oM ?_
           refine AList.litSl tyOk rfl rfl rfl rfl rfl rfl rfl rfl rfl rfl rfl ?_
           refine AList.litSl tyOk rfl rfl rfl rfl rfl rfl rfl rfl rfl rfl rfl ?_
           refine AList.buildSt tyOk rfl rfl rfl rfl rfl rfl rfl rfl ?_
           refine AList.call rfl rfl rfl rfl Try.func24 rfl (by kernel_rfl) (hP1) ?_
           refine AList.move rfl rfl rfl ?_
           refine AList.extract rfl rfl rfl rfl ?_
           refine AList.extract rfl rfl rfl rfl ?_
           refine AList.alloc tyOk rfl rfl rfl rfl rfl ?_
           refine AList.store tyOk rfl rfl rfl rfl rfl rfl rfl rfl oM oM ?_
           refine AList.assign rfl rfl rfl ?_
           refine AList.nil ?_)
        | (refine AWp.region (id := 13) ?_
           refine AList.loadA tyOk rfl rfl rfl rfl rfl rfl rfl oM oM ?_
           refine AList.loadA tyOk rfl rfl rfl rfl rfl rfl rfl oM oM ?_
           refine AList.buildSt tyOk rfl rfl rfl rfl rfl rfl rfl rfl ?_
           refine AList.call rfl rfl rfl rfl Try.func20 rfl (by kernel_rfl) (hX1) ?_
           refine AList.move rfl rfl rfl ?_
           refine AList.extract rfl rfl rfl rfl ?_
           refine AList.extract rfl rfl rfl rfl ?_
           refine AList.alloc tyOk rfl rfl rfl rfl rfl ?_
           refine AList.store tyOk rfl rfl rfl rfl rfl rfl rfl rfl oM oM ?_
           refine AList.assign rfl rfl rfl ?_
           refine AList.nil ?_)
        | (refine AWp.region (id := 14) ?_
           refine AList.loadA tyOk rfl rfl rfl rfl rfl rfl rfl oM oM ?_
           refine AList.loadA tyOk rfl rfl rfl rfl rfl rfl rfl oM oM ?_
           refine AList.buildSt tyOk rfl rfl rfl rfl rfl rfl rfl rfl ?_
           refine AList.call rfl rfl rfl rfl Try.func20 rfl (by kernel_rfl) (hX2) ?_
           refine AList.move rfl rfl rfl ?_
           refine AList.extract rfl rfl rfl rfl ?_
           refine AList.extract rfl rfl rfl rfl ?_
           refine AList.alloc tyOk rfl rfl rfl rfl rfl ?_
           refine AList.store tyOk rfl rfl rfl rfl rfl rfl rfl rfl oM oM ?_
           refine AList.assign rfl rfl rfl ?_
           refine AList.nil ?_)
        | (refine AWp.region (id := 15) ?_
           refine AList.loadA tyOk rfl rfl rfl rfl rfl rfl rfl oM oM ?_
           refine AList.litSl tyOk rfl rfl rfl rfl rfl rfl rfl rfl rfl rfl rfl ?_
           refine AList.buildSt tyOk rfl rfl rfl rfl rfl rfl rfl rfl ?_
           refine AList.call rfl rfl rfl rfl Try.func24 rfl (by kernel_rfl) (hP2) ?_
           refine AList.move rfl rfl rfl ?_
           refine AList.extract rfl rfl rfl rfl ?_
           refine AList.extract rfl rfl rfl rfl ?_
           refine AList.alloc tyOk rfl rfl rfl rfl rfl ?_
           refine AList.store tyOk rfl rfl rfl rfl rfl rfl rfl rfl oM oM ?_
           refine AList.assign rfl rfl rfl ?_
           refine AList.nil ?_)
        | (refine AWp.region (id := 16) ?_
           refine AList.loadA tyOk rfl rfl rfl rfl rfl rfl rfl oM oM ?_
           refine AList.buildSt tyOk rfl rfl rfl rfl rfl rfl rfl rfl ?_
           refine AList.call rfl rfl rfl rfl Try.func24 rfl (by kernel_rfl) (hP3) ?_
           refine AList.move rfl rfl rfl ?_
           refine AList.extract rfl rfl rfl rfl ?_
           refine AList.extract rfl rfl rfl rfl ?_
           refine AList.alloc tyOk rfl rfl rfl rfl rfl ?_
           refine AList.store tyOk rfl rfl rfl rfl rfl rfl rfl rfl oM oM ?_
           refine AList.assign rfl rfl rfl ?_
           refine AList.nil ?_)
        | (refine AWp.region (id := 17) ?_
           refine AList.move rfl rfl rfl ?_
           refine AList.move rfl rfl rfl ?_
           refine AList.move rfl rfl rfl ?_
           refine AList.cmp rfl rfl rfl rfl rfl ?_
           refine AList.pickF rfl rfl rfl rfl ?_
           refine AList.move rfl rfl rfl ?_
           refine AList.move rfl rfl rfl ?_
           refine AList.cmp rfl rfl rfl rfl rfl ?_
           refine AList.pickF rfl rfl rfl rfl ?_
           refine AList.move rfl rfl rfl ?_
           refine AList.move rfl rfl rfl ?_
           refine AList.cmp rfl rfl rfl rfl rfl ?_
           refine AList.pickF rfl rfl rfl rfl ?_
           refine AList.move rfl rfl rfl ?_
           refine AList.move rfl rfl rfl ?_
           refine AList.cmp rfl rfl rfl rfl rfl ?_
           refine AList.pickF rfl rfl rfl rfl ?_
           refine AList.move rfl rfl rfl ?_
           refine AList.move rfl rfl rfl ?_
           refine AList.notB rfl rfl rfl ?_
           refine AList.pickF rfl rfl rfl rfl ?_
           refine AList.move rfl rfl rfl ?_
           refine AList.move rfl rfl rfl ?_
           refine AList.pickF rfl rfl rfl rfl ?_
           refine AList.nil ?_)
        | (refine AWp.region (id := 19) ?_
           refine AList.loadA tyOk rfl rfl rfl rfl rfl rfl rfl oM oM ?_
           refine AList.litSl tyOk rfl rfl rfl rfl rfl rfl rfl rfl rfl rfl rfl ?_
           refine AList.call rfl rfl rfl rfl Try.func28 rfl (by kernel_rfl) (hD0) ?_
           refine AList.move rfl rfl rfl ?_
           refine AList.loadA tyOk rfl rfl rfl rfl rfl rfl rfl oM oM ?_
           refine AList.litSl tyOk rfl rfl rfl rfl rfl rfl rfl rfl rfl rfl rfl ?_
           refine AList.call rfl rfl rfl rfl Try.func28 rfl (by kernel_rfl) (hD1) ?_
           refine AList.pickT rfl rfl rfl rfl ?_
           refine AList.move rfl rfl rfl ?_
           refine AList.loadA tyOk rfl rfl rfl rfl rfl rfl rfl oM oM ?_
           refine AList.buildSt tyOk rfl rfl rfl rfl rfl rfl rfl rfl ?_
           refine AList.binAg rfl rfl rfl rfl rfl rfl (by kernel_rfl) (mc_eqS ⟨1, 0, 1, 1⟩) ?_
           refine AList.pickT rfl rfl rfl rfl ?_
           refine AList.move rfl rfl rfl ?_
           refine AList.loadA tyOk rfl rfl rfl rfl rfl rfl rfl oM oM ?_
           refine AList.call rfl rfl rfl rfl Try.func14 rfl (by kernel_rfl) (hC1) ?_
           refine AList.cmp rfl rfl rfl rfl rfl ?_
           refine AList.pickT rfl rfl rfl rfl ?_
           refine AList.move rfl rfl rfl ?_
           refine AList.buildSt tyOk rfl rfl rfl rfl rfl rfl rfl rfl ?_
           refine AList.call rfl rfl rfl rfl Try.func14 rfl (by kernel_rfl) (hC2) ?_
           refine AList.cmp rfl rfl rfl rfl rfl ?_
           refine AList.pickT rfl rfl rfl rfl ?_
           refine AList.assign rfl rfl rfl ?_
           refine AList.nil ?_))
      refine ⟨mkSt 147 [(0, .c (bC true))] [] [], [], Wk.mk [] rfl rfl rfl ?_ trivial, rfl, rfl, ARets.one (x := .c _) (ARes.tmp rfl rfl)⟩
      repeat (first | exact trivial | refine ⟨⟨_, rfl, by first | exact LeA.c (LeC.refl _ rfl) | exact LeA.c (LeC.ow _ _ rfl) | exact LeA.c (LeC.pt _ _ _ _ _ rfl) | exact LeA.c (LeC.nil _ rfl) | exact LeA.c (LeC.nils _ _) | (refine LeA.int ?_; omega) | (refine LeA.int ?_; dsimp only; omega) | exact LeA.c (LeC.fz rfl rfl (by first | rfl | omega) (fun i _ j _ => ⟨rfl, by first | rfl | exact rowN_imm (fun _ => rfl) _ i j | exact rowF_imm (fun _ => rfl) _ i j⟩))⟩, ?_⟩)
end Go.Proofs.Ytclaanggpcjnbaa
end
