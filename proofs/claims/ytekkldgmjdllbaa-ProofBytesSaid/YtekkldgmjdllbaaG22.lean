/- Parts of the proof: ALab, A24q, A24v. -/
import Derived.Test.YtekkldgmjdllbaaG04
import Derived.Scope
import Derived.Test.YtekkldgmjdllbaaG21
import Derived.Test.YtekkldgmjdllbaaG17
set_option linter.unusedSimpArgs false
set_option linter.unusedVariables false
section
namespace Go.AV
open Go Go.RowKit Go.Flow
section
variable {F : Fence} {n : Nat} {P : Program} {Q : Exit → Act → World → Prop} {a : Act} {w : World}
theorem stepR_scope' {b : Frame} {k : List Item} {cs : List Frame} {c : Code} : step P (lone (b.atR a (.code (.scope c) :: k)) cs w) = .next (lone (b.atR a (.code c :: .inScope c :: k)) cs w) :=
 step_lone_go (by simp [stepG, stepG.exec, Frame.atR])
theorem stepR_inScope' {b : Frame} {k : List Item} {cs : List Frame} {c : Code} : step P (lone (b.atR a (.inScope c :: k)) cs w) = .next (lone (b.atR a k) cs w) :=
 step_lone_go (by simp [stepG, stepG.exec, Frame.atR])
theorem wpIn_scope' {c : Code} (hg : ∀ l a w, ¬ Q (.goto l) a w) (h : c.wpIn F n P Q a w) : (Code.scope c).wpIn F n P Q a w := by
 intro b k cs hro hb hr
 have h0 : (lone (b.atR a (.code (.scope c) :: k)) cs w).fenced P F := fenced_calm hb hr rfl
 obtain ⟨e, a₁, w₁, hq, harr⟩ := h b (.inScope c :: k) cs hro hb hr
 cases e with
 | normal => exact ⟨.normal, a₁, w₁, hq, .head h0 stepR_scope' (StepsIn.trans harr (.one (fenced_calm hb hr rfl) stepR_inScope'))⟩
 | exit id =>
   have hx : exitTo id (.inScope c :: k) = exitTo id k := by simp [exitTo]
   exact ⟨.exit id, a₁, w₁, hq, .of_steps (.one h0 stepR_scope') (e := .exit id) ⟨fun k' hk => harr.1 k' (by rw [hx]; exact hk), fun hr1 hk => harr.2 hr1 (by rw [hx]; exact hk)⟩⟩
 | goto l => exact (hg l _ _ hq).elim
 | ret => exact ⟨_, a₁, w₁, hq, .of_steps (.one h0 stepR_scope') (e := .ret) harr⟩
 | panic ch => exact ⟨_, a₁, w₁, hq, .of_steps (.one h0 stepR_scope') (e := .panic ch) harr⟩
 | outgrown => exact ⟨_, a₁, w₁, hq, .of_steps (.one h0 stepR_scope') (e := .outgrown) harr⟩
end
section
variable {P : Program} {S : St} {Q : Exit → St → Prop}
theorem AWp.scope {c : Code} (hg : ∀ l S, ¬ Q (.goto l) S) (h : AWp P c Q S) : AWp P (.scope c) Q S := ⟨fun b0 a w hR =>
 wpIn_scope' (fun _ _ _ ⟨_, _, h⟩ => hg _ _ h) (h.get b0 a w hR)⟩
theorem AWp.label {l : Nat} (h : Q .normal S) : AWp P (.label l) Q S := ⟨fun b0 a w hR => wpIn_label ⟨S, hR, h⟩⟩
end
end Go.AV
end
section
namespace Go.Proofs.Ytekkldgmjdllbaa
open Go.RowKit Go.Flow Go.AV Go.Plain
def cnB (c : Cl) (b : Bool) : List AB := [⟨false, 1, 3, 53, lF (clC c)⟩, ⟨false, 1, 1, 4, lF [bC b]⟩]
theorem cnB_plain (c : Cl) (b : Bool) : (cnB c b).length = [8, 9].length ∧ ∀ B ∈ cnB c b, PlainB B := ⟨rfl, fun B hB => by
 rcases List.mem_cons.1 hB with rfl | hB
 ·exact PlainB.box [.int .i64 c.dx, .int .i64 c.dy, .int .i64 c.col] rfl rfl
 ·rcases List.mem_cons.1 hB with rfl | hB
  ·exact PlainB.box [.bool b] rfl rfl
  ·cases hB⟩
theorem clX_one (a b : Bp) (x y : Bg) (d : Int × Int) (i : Nat) (v : Value) (hv : v ∈ clX a b x y d i) : v.oneCell' = true := by
 rcases List.mem_cons.1 hv with rfl | hv
 ·rfl
 ·rcases List.mem_cons.1 hv with rfl | hv
  ·rfl
  ·cases hv
theorem cnfR_hit {p : Cl → Bool} {L : List Cl} {c : Cl} (h : L.find? p = some c) : cnfR p L = (c, true) := by unfold cnfR; rw [h]
theorem cnfR_no {p : Cl → Bool} {L : List Cl} (h : L.find? p = none) : cnfR p L = (clZ, false) := by unfold cnfR; rw [h]
theorem goes_at (i : Nat) : goesB (i + 1) true i = false := by unfold goesB; rw [show Nat.beq (i + 1) (i + 1) = true from Nat.beq_refl _]; rfl
theorem goes_bef {k i : Nat} (h : i < k) : goesB (k + 1) true i = true := by
 unfold goesB
 rw [show Nat.beq (i + 1) (k + 1) = false from Bool.eq_false_iff.2 fun h => by have := Nat.eq_of_beq_eq_true h; omega]
 rfl
theorem shN_bd {x y : Bg} {k : Nat} (hk : k < (shL (shN x y)).length) : (-4 ≤ ((shL (shN x y)).getD k mvZ).1 ∧ ((shL (shN x y)).getD k mvZ).1 ≤ 4) ∧ -4 ≤ ((shL (shN x y)).getD k mvZ).2 ∧ ((shL (shN x y)).getD k mvZ).2 ≤ 4 := by
 obtain ⟨-, hm⟩ := shN_eq x y
 have := sh_bd hk
 omega
set_option maxHeartbeats 2000000 in
set_option maxRecDepth 100000 in
theorem Confused_A (a b : Bp) (x y : Bg) : ACalls Try.prog 21 [.ag (bpC a), .ag (bpC b), .ag (bgC x), .ag (bgC y)] (.tu [.ag (clC (cnfV a b x y).1), .c (bC (cnfV a b x y).2)]) := by
 have hAl := alike_A a b
 have hl1 := alim_A x
 have hl2 := alim_A y
 have hSh := aShifts_A x y
 unfold cnfV
 by_cases hok : cmpOk a b
 ·rw [if_pos hok]
  rw [decide_eq_true hok] at hAl
  have hst : ∀ k, k < (shL (shN x y)).length → _ := fun k hk => strips_any a b x y ((shL (shN x y)).getD k mvZ) hok (shN_bd hk)
  have hfl : alL a.W x y = (shL (shN x y)).flatMap fun d => alI 0 d (alM a.W x y) := rfl
  rw [hfl]
  have hSl : (shL (shN x y)).length ≤ 81 := by
   obtain ⟨-, hm4⟩ := shN_eq x y
   rw [shL_len hm4]
   have := Nat.mul_le_mul (show 2 * shN x y + 1 ≤ 9 by omega) (show 2 * shN x y + 1 ≤ 9 by omega)
   omega
  generalize shL (shN x y) = S at *
  obtain ⟨M, hM⟩ : ∃ M, alM a.W x y = M := ⟨_, rfl⟩
  rw [hM] at hst ⊢
  obtain ⟨n, hnl⟩ : ∃ n, S.length = n := ⟨_, rfl⟩
  rw [hnl] at hSh hSl hst
  refine acalls_at Try.func21 rfl rfl Try.ntmps21 rfl ?_
  repeat (first
   | refine uA ?_
   | refine uB ?_
   | refine uC ?_
   | refine uG ?_
   | refine kU ?_
   | refine AWp.scope (fun _ _ h => h) ?_
   | refine AWp.label ?_
   | (refine rG 0 ?_
      (iterate 4 refine qr5 aQ ?_)
      (iterate 2 refine qr5 (aM tyOk) ?_)
      refine aB ?_)
   | (refine rG 1 ?_
      (iterate 2 refine kF ?_)
      refine aH rfl rfl rfl rfl Try.func57 rfl (by kernel_rfl) (hAl) ?_
      refine qr3 AList.notB ?_
      refine aB ?_)
   | (refine AWp.draw (id := 3) mixed ?_; (iterate 3 refine kF ?_); refine aH rfl rfl rfl rfl Try.func58 rfl (by kernel_rfl) (hl1) ?_; refine kF ?_; refine aH rfl rfl rfl rfl Try.func58 rfl (by kernel_rfl) (hl2) ?_; refine qr8 (aX tyOk) ?_; refine qr5 (aM tyOk) ?_; refine kI ?_; refine aB ⟨by kernel_rfl, ?_⟩)
   | (refine rG 4 ?_
      (iterate 2 refine kF ?_)
      refine aH rfl rfl rfl rfl Try.func22 rfl (by kernel_rfl) (hSh) ?_
      refine qr5 (aO tyOk) ?_
      refine kA ?_
      refine aB ?_))
  refine AWp.round (fun k : Nat => mkSt 51 [(8, .c (.pt 8 3 0 0)), (9, .c (.pt 9 1 0 0)), (10, .c (.pt 10 14 0 0)), (29, .c (.ls n 2 (rowF mvC mvZ S))), (30, .c (iC n)), (31, .c (iC k))] [(8, ⟨false, 1, 3, 53, lF (clC clZ)⟩), (9, ⟨false, 1, 1, 4, lF [bC false]⟩), (10, ⟨false, 1, 14, 117, lF (prC a b (lim4 x) (lim4 y))⟩)] [8, 9, 10])
   (fun k => k ≤ n ∧ ∀ k', k' < k → ∀ i', i' < M → hitC a b x y (clK S k' i') = false) (fun k => n - k) 0 ⟨Nat.zero_le _, fun _ h => absurd h (Nat.not_lt_zero _)⟩ ?_ (fun k hk => ?_)
  ·refine Wk.mk [(8, some 8), (9, some 9), (10, some 10)] rfl rfl rfl ?_ ?_
   ·exact allT
   ·exact allH
  ·obtain ⟨hk, hno⟩ := hk
   by_cases hkn : k < n
   ·obtain ⟨n', c0, c1, t0, t1, hS, hIt⟩ := hst k hkn
    repeat (first
     | refine uA ?_
     | refine uB ?_
     | refine uC ?_
     | refine uG ?_
     | refine kT ?_
     | (refine rG 5 ?_
        refine qr5t aK ?_
        refine aB ?_)
     | (refine rG 6 ?_
        refine qr8eo2 (aP (k := k) tyOk) ?_
        refine qr5o (aT tyOk) ?_
        refine qr5 (aM tyOk) ?_
        refine kI ?_
        refine aB ?_)
     | (refine rG 7 ?_
        (iterate 2 refine kF ?_)
        refine aH rfl rfl rfl rfl Try.func59 rfl (by kernel_rfl) (hS) ?_
        refine aB ?_))
    rcases first_hit (fun i => hitC a b x y (clK S k i)) M with hn1 | ⟨i0, hi0, hb, hn1⟩
    ·refine AWp.range (N := M) (stop := false) (eS := .ret) (ids := [8, 9]) (bsI := fun _ => cnB clZ false) (ts := [(8, .c (.pt 1000 3 0 0)), (9, .c (.pt 1001 1 0 0)), (12, .c (.pl 1 2 (lF (mvC (S.getD k mvZ))) 0 0))]) (ys := stYs a b x y n' c0 c1 t0 t1) (xs := clX a b x y (S.getD k mvZ)) rfl (enters_of Try.func111 (by kernel_rfl) rfl) ⟨ViewC.imm _ rfl, ViewC.imm _ rfl, ViewC.imm _ rfl, trivial⟩ rfl hIt (fun _ h => h) (fun h => by cases h) (fun _ => rfl) rfl ?_ (fun i hi => cnB_plain _ _) ?_ rfl (fun i hi => ⟨rfl, clX_one a b x y _ i⟩) (.inl rfl) (fun i hi => ?_) ?_
     ·exact LendOk.box rfl rfl rfl (LendOk.box rfl rfl rfl trivial)
     ·repeat (first | exact trivial | refine ⟨⟨_, rfl, by first | exact ViewA.c (ViewC.imm _ rfl) | exact ViewA.c (ViewC.lend _ _ _ _ _ rfl) | exact ViewA.c (ViewC.roBox rfl rfl rfl rfl)⟩, ?_⟩)
     ·have hfa : ¬ xsV a b x y ⟨(S.getD k mvZ).1, (S.getD k mvZ).2, (i : Int) - 4⟩ ≤ 0 := of_decide_eq_false (hn1 i hi)
      repeat (first
       | refine uA ?_
       | refine uB ?_
       | (refine rG 8 ?_
          refine kC ?_
          refine aB ?_)
       | (refine rG 9 ?_
          refine kC ?_
          refine aB ?_))
      refine ⟨rfl, ?_⟩
      repeat (first
       | refine uA ?_
       | refine uB ?_
       | refine uC ?_
       | refine uG ?_
       | refine uD ?_
       | refine kU ?_
       | (refine rG 10 ?_
          refine kA ?_
          refine qr5f aJ ?_
          refine aB ?_))
      refine ⟨rfl, mkG (fun _ => True) 0 true 51 2 [] (lentL 0 (cnB (clZ) false)) [], [], Wk.mkG [] rfl rfl rfl rfl rfl trivial ?_, rfl, rfl⟩
      exact allH
     ·repeat (first
       | refine uB ?_
       | refine uD ?_
       | (refine rG 12 ?_
          refine qr4w2 aL ?_
          refine kA ?_
          refine aB ?_))
      refine ⟨k + 1, ⟨by omega, fun k' hk' i' hi' => ?_⟩, Wk.mk [(8, some 8), (9, some 9), (10, some 10)] rfl rfl rfl ?_ ?_, by omega⟩
      ·by_cases e : k' = k
       ·rw [e]; exact hn1 i' hi'
       ·exact hno k' (by omega) i' hi'
      ·exact allT
      ·exact allH
    ·have hfind := find_flat (p := hitC a b x y) S k i0 (by rw [hnl]; exact hkn) hi0 hb hno hn1
     rw [cnfR_hit hfind]
     refine AWp.range (N := i0 + 1) (stop := true) (eS := .exit 0) (ids := [8, 9]) (bsI := fun i => if i ≤ i0 then cnB clZ false else cnB (clK S k i0) true) (ts := [(8, .c (.pt 1000 3 0 0)), (9, .c (.pt 1001 1 0 0)), (12, .c (.pl 1 2 (lF (mvC (S.getD k mvZ))) 0 0))]) (ys := stYs a b x y n' c0 c1 t0 t1) (xs := clX a b x y (S.getD k mvZ)) rfl (enters_of Try.func111 (by kernel_rfl) rfl) ⟨ViewC.imm _ rfl, ViewC.imm _ rfl, ViewC.imm _ rfl, trivial⟩ rfl hIt (fun _ h => h) (fun _ => ⟨by omega, by omega⟩) (fun h => by cases h) rfl ?_ (fun i hi => ?_) ?_ rfl (fun i hi => ⟨rfl, clX_one a b x y _ i⟩) (.inr ⟨_, rfl⟩) (fun i hi => ?_) ?_
     ·exact LendOk.box rfl rfl rfl (LendOk.box rfl rfl rfl trivial)
     ·by_cases h : i ≤ i0
      ·rw [if_pos h]; exact cnB_plain _ _
      ·rw [if_neg h]; exact cnB_plain _ _
     ·repeat (first | exact trivial | refine ⟨⟨_, rfl, by first | exact ViewA.c (ViewC.imm _ rfl) | exact ViewA.c (ViewC.lend _ _ _ _ _ rfl) | exact ViewA.c (ViewC.roBox rfl rfl rfl rfl)⟩, ?_⟩)
     ·rw [if_pos (by omega : i ≤ i0)]
      by_cases hik : i = i0
      ·subst hik
       have hfa : xsV a b x y ⟨(S.getD k mvZ).1, (S.getD k mvZ).2, (i : Int) - 4⟩ ≤ 0 := of_decide_eq_true hb
       rw [goes_at i, if_neg (by omega : ¬ i + 1 ≤ i)]
       repeat (first
        | refine uA ?_
        | refine uB ?_
        | (refine rG 8 ?_
           refine kC ?_
           refine aB ?_)
        | (refine rG 9 ?_
           refine kC ?_
           refine aB ?_))
       refine ⟨rfl, ?_⟩
       repeat (first
        | refine uA ?_
        | refine uB ?_
        | refine uC ?_
        | refine uH ?_
        | refine inBlk_miss rfl ?_
        | refine kT ?_
        | (refine rG 10 ?_
           refine kA ?_
           refine qr5t aK ?_
           refine aB ?_)
        | (refine rG 11 ?_
           refine qr7 (AList.fieldPl tyOk) ?_
           refine qr5o (aV tyOk) ?_
           refine qr7 (AList.fieldPl tyOk) ?_
           refine qr5o (aV tyOk) ?_
           refine kA ?_
           refine qr8 (aX tyOk) ?_
           (iterate 2 refine kI ?_)
           refine aB ?_))
       refine ⟨rfl, mkG (fun _ => True) 0 true 51 2 [] (lentL 0 (cnB (clK S k i) true)) [], [], Wk.mkG [] rfl rfl rfl rfl rfl trivial ?_, rfl, rfl⟩
       exact allH
      ·have hfa : ¬ xsV a b x y ⟨(S.getD k mvZ).1, (S.getD k mvZ).2, (i : Int) - 4⟩ ≤ 0 := of_decide_eq_false (hn1 i (by omega))
       rw [goes_bef (by omega : i < i0), if_pos (by omega : i + 1 ≤ i0)]
       repeat (first
        | refine uA ?_
        | refine uB ?_
        | (refine rG 8 ?_
           refine kC ?_
           refine aB ?_)
        | (refine rG 9 ?_
           refine kC ?_
           refine aB ?_))
       refine ⟨rfl, ?_⟩
       repeat (first
        | refine uA ?_
        | refine uB ?_
        | refine uC ?_
        | refine uG ?_
        | refine uD ?_
        | refine kU ?_
        | (refine rG 10 ?_
           refine kA ?_
           refine qr5f aJ ?_
           refine aB ?_))
       refine ⟨rfl, mkG (fun _ => True) 0 true 51 2 [] (lentL 0 (cnB (clZ) false)) [], [], Wk.mkG [] rfl rfl rfl rfl rfl trivial ?_, rfl, rfl⟩
       exact allH
     ·rw [if_neg (by omega : ¬ i0 + 1 ≤ i0)]
      repeat (first
       | refine uA ?_
       | refine uB ?_
       | refine AWp.ret ?_
       | (refine AWp.draw (id := 13) mixed ?_; refine kF ?_; refine kE ?_; (iterate 2 refine kI ?_); refine aB ⟨by kernel_rfl, ?_⟩))
      refine ⟨mkSt 51 [(8, .c (.pt 8 3 0 0)), (9, .c (.pt 9 1 0 0))] [(8, ⟨false, 1, 3, 53, lF (clC (clK S k i0))⟩), (9, ⟨false, 1, 1, 4, lF [bC true]⟩)] [8, 9], [(8, ⟨false, 1, 3, 53, lF (clC (clK S k i0))⟩), (9, ⟨false, 1, 1, 4, lF [bC true]⟩)], Wk.mk [(8, some 8), (9, some 9)] rfl rfl rfl ?_ ?_, rfl, rfl, ARets.two (x := .ag _) (y := .c _) (ARes.box tyOk rfl rfl rfl rfl rfl rfl rfl) (ARes.box1 tyOk rfl rfl rfl rfl rfl rfl)⟩
      ·exact allT
      ·exact allH
   ·obtain rfl : k = n := by omega
    rw [cnfR_no (find_flat_no S (fun k' hk' => hno k' (by rw [← hnl]; exact hk')))]
    repeat (first
     | refine uA ?_
     | refine uB ?_
     | refine uH ?_
     | refine AWp.ret ?_
     | refine kU ?_
     | (refine rG 5 ?_
        refine qr5f aJ ?_
        refine aB ?_)
     | (refine AWp.draw (id := 13) mixed ?_; refine kF ?_; refine kE ?_; (iterate 2 refine kI ?_); refine aB ⟨by kernel_rfl, ?_⟩))
    refine ⟨mkSt 51 [(8, .c (.pt 8 3 0 0)), (9, .c (.pt 9 1 0 0))] [(8, ⟨false, 1, 3, 53, lF (clC (clZ))⟩), (9, ⟨false, 1, 1, 4, lF [bC false]⟩)] [8, 9], [(8, ⟨false, 1, 3, 53, lF (clC (clZ))⟩), (9, ⟨false, 1, 1, 4, lF [bC false]⟩)], Wk.mk [(8, some 8), (9, some 9)] rfl rfl rfl ?_ ?_, rfl, rfl, ARets.two (x := .ag _) (y := .c _) (ARes.box tyOk rfl rfl rfl rfl rfl rfl rfl) (ARes.box1 tyOk rfl rfl rfl rfl rfl rfl)⟩
    ·exact allT
    ·exact allH
 ·rw [if_neg hok]
  rw [decide_eq_false hok] at hAl
  refine acalls_at Try.func21 rfl rfl Try.ntmps21 rfl ?_
  repeat (first
   | refine uA ?_
   | refine uB ?_
   | refine AWp.ret ?_
   | refine thenA_r ?_
   | refine kT ?_
   | refine AWp.scope (fun _ _ h => h) ?_
   | (refine rG 0 ?_
      (iterate 4 refine qr5 aQ ?_)
      (iterate 2 refine qr5 (aM tyOk) ?_)
      refine aB ?_)
   | (refine rG 1 ?_
      (iterate 2 refine kF ?_)
      refine aH rfl rfl rfl rfl Try.func57 rfl (by kernel_rfl) (hAl) ?_
      refine qr3 AList.notB ?_
      refine aB ?_)
   | (refine rG 2 ?_
      refine kF ?_
      (iterate 2 refine kI ?_)
      refine aB ?_))
  refine ⟨mkSt 51 [(8, .c (.pt 8 3 0 0)), (9, .c (.pt 9 1 0 0))] [(8, ⟨false, 1, 3, 53, lF (clC (clZ))⟩), (9, ⟨false, 1, 1, 4, lF [bC false]⟩)] [8, 9], [(8, ⟨false, 1, 3, 53, lF (clC (clZ))⟩), (9, ⟨false, 1, 1, 4, lF [bC false]⟩)], Wk.mk [(8, some 8), (9, some 9)] rfl rfl rfl ?_ ?_, rfl, rfl, ARets.two (x := .ag _) (y := .c _) (ARes.box tyOk rfl rfl rfl rfl rfl rfl rfl) (ARes.box1 tyOk rfl rfl rfl rfl rfl rfl)⟩
  ·exact allT
  ·exact allH
theorem AWp.cut {P : Program} {x : Code} {Q : Exit → St → Prop} {S : St} (S1 : St) (h : AWp P x (fun e S' => e = .normal ∧ Wk S' S1) S) (hz : ∀ S', Wk S' S1 → Q .normal S') : AWp P x Q S :=
 h.mono fun e S' h => by obtain ⟨rfl, hw⟩ := h; exact hz S' hw
end Go.Proofs.Ytekkldgmjdllbaa
end
