/- Parts of the proof: AFz, A28z. -/
import Derived.Test.YtjjaehpkccejaaaG27
import Derived.Test.YtjjaehpkccejaaaG33
set_option linter.unusedSimpArgs false
set_option linter.unusedVariables false
section
namespace Go.AV
open Go Go.RowKit Go.Flow
section
variable {P : Program}
def FzC (S : St) (rd : List Nat) (x y : CV) : Prop :=
 (x = y ∧ immC y = true) ∨ ∃ (id n sz : Nat) (ty : TypeId) (F G : Nat → Nat → CV), x = .ow id ∧ y = .ls n sz G ∧ id ∈ rd ∧ S.h id = some ⟨true, n, sz, ty, F⟩ ∧ ∀ k, k < n → ∀ j, j < sz → F k j = G k j ∧ immC (F k j) = true
inductive FzW (S : St) (rd : List Nat) : V1 → V1 → Prop
 | c {x y : CV} (h : FzC S rd x y) : FzW S rd (.c x) (.c y)
 | ag {l m : List CV} (h : LeL (FzC S rd) l m) : FzW S rd (.ag l) (.ag m)
theorem fzC_rep {S S1 : St} {rd : List Nat} {b0 : Base} {σ : Nat → Option Value} {a : Act} {w : World} (R : Rel0 b0 σ S1 a w) (hr : ∀ id ∈ rd, S1.h id = S.h id) {x y : CV} {u : Value} (h : FzC S rd x y) (hu : RepC σ (out b0 σ S1.h) w x u) : RepC (fun _ => none) (fun _ => False) w y u := by
 have : FzV S rd (.c x) (.c y) := by
  rcases h with ⟨rfl, hi⟩ | ⟨id, n, sz, ty, F, G, rfl, rfl, h⟩
  ·exact .inl ⟨rfl, hi⟩
  ·exact .inr ⟨id, n, sz, ty, F, G, rfl, rfl, h⟩
 exact fzV_rep R hr this hu
theorem fzW_rep {S S1 : St} {rd : List Nat} {b0 : Base} {σ : Nat → Option Value} {a : Act} {w : World} (R : Rel0 b0 σ S1 a w) (hr : ∀ id ∈ rd, S1.h id = S.h id) {x y : V1} {u : Value} (h : FzW S rd x y) (hu : RepV σ (out b0 σ S1.h) w x u) : RepV (fun _ => none) (fun _ => False) w y u := by
 cases h with
 | c h => exact fzC_rep R hr h hu
 | ag h => obtain ⟨vs, e, hl⟩ := hu; exact ⟨vs, e, LeL.get (Rv' := RepC (fun _ => none) (fun _ => False) w) (fun (x y : CV) v (h1 : FzC S rd x y) (h2 : RepC σ (out b0 σ S1.h) w x v) => fzC_rep R hr h1 h2) h hl⟩
theorem fzLW_rep {S S1 : St} {rd : List Nat} {b0 : Base} {σ : Nat → Option Value} {a : Act} {w : World} (R : Rel0 b0 σ S1 a w) (hr : ∀ id ∈ rd, S1.h id = S.h id) : ∀ {l m : List V1} {us : List Value}, LeL (FzW S rd) l m → RepL (RepV σ (out b0 σ S1.h) w) l us → RepL (RepV (fun _ => none) (fun _ => False) w) m us
 | [], [], [], _, _ => trivial
 | x :: l, y :: m, u :: us, h, hu => ⟨fzW_rep R hr h.1 hu.1, fzLW_rep R hr h.2 hu.2⟩
 | [], _ :: _, _, h, _ => h.elim
 | _ :: _, [], _, h, _ => h.elim
 | [], [], _ :: _, _, h => h.elim
 | _ :: _, _ :: _, [], _, h => h.elim
section ops
variable {ops : Array Oper} {rest : List Oper} {acc : List (List Nat × List Nat)} {S : St} {Q : List (List Nat × List Nat) → St → Prop} {dst : Option Tmp} {ty : TypeId} {pos : String} {after : Array Edge} {guard : Option (Nat × Bool)}
theorem AList.callPW {f : FuncId} {fn : Func} {xs : Array Operand} {ats : Array TypeId} {args args1 : List V1} {v : Value} (rd : List Nat) (hw : S.wants ops { dst, op := .call { callee := .value (.func f), args := xs, argTypes := ats }, type := ty, pos, after, guard } = some true) (hd : dOk S.n dst = true)
 (ha : S.opds xs.toList = some args) (hf : P.funcs[f]? = some fn) (hb : fn.body.isNone = false) (hnm : (fn.name == "runtime.NumGoroutine") = false) (hc : ACalls P f args1 (.c (.p v))) (hz : LeL (FzW S rd) args args1)
 (hn : AList P ops rest ((rd ++ [], []) :: acc) (S.eff dst ⟨.c (.p v), [], []⟩) Q) : AList P ops ({ dst, op := .call { callee := .value (.func f), args := xs, argTypes := ats }, type := ty, pos, after, guard } :: rest) acc S Q :=
 AList.ext rd _ hw hd (fun S1 h1 hr b0 σ a w R => by
  have h2 : S1.opds xs.toList = some args := (opds_congr fun x hx => h1 x (by simp only [Op.operands, Call.operands]; simp; exact .inr (by simpa using hx))).trans ha
  have := (ECalls.of hc) (fun _ => False) w _ (fun b hb => hb.elim) (fzLW_rep R hr hz (opds_rep R h2))
  rw [run_callf f fn hf hb hnm #[] #[] rfl w]
  simp only [Goes]
  rw [show (#[] ++ xs.map a.eval ++ #[] : Array Value) = (xs.toList.map a.eval).toArray from Array.ext' (by simp)]
  exact this.mono fun e w' ⟨u, r, g1, g2, g3, g4⟩ => by
   subst g2
   exact ⟨u, g1, ⟨g3.1, g3.2⟩, g4⟩) hn
end ops
end
end Go.AV
end

section
namespace Go.Proofs.Ytjjaehpkccejaaa
open Go.RowKit Go.Flow Go.AV Go.Plain
theorem fI_ext {a b : List Int} (hl : a.length = b.length) (h : ∀ k, k < a.length → fI a k = fI b k) : a = b := by
 refine List.ext_getElem hl fun i h1 h2 => ?_
 have := h i h1
 simpa [fI, List.getD_eq_getElem?_getD, h1, h2] using this
set_option maxHeartbeats 1000000 in
set_option maxRecDepth 100000 in
theorem SameInts_A (a b : List Int) (ha : a.length ≤ 4611686018427387904) : ACalls Try.prog 23 [.c (lsI a), .c (lsI b)] (.c (bC (decide (a = b)))) := by
 obtain ⟨v, hv⟩ : ∃ v, decide (a = b) = v := ⟨_, rfl⟩
 rw [hv]
 refine acalls_at Try.func23 rfl rfl Try.ntmps23 rfl ?_
 by_cases hl : a.length = b.length
 ·have hl' : ((a.length : Nat) : Int) = b.length := by omega
  repeat (first
   | refine AWp.seq ?_
   | refine thenA_n ?_
   | refine AWp.block ?_
   | refine AWp.skip ?_
   | refine AWp.condF rfl cnF ?_
   | (refine rG 0 ?_
      refine kC ?_
      refine aB ?_)
   | (refine rG 1 ?_
      refine kA ?_
      refine qr5 (aO tyOk) ?_
      refine kA ?_
      refine qr5 (aO tyOk) ?_
      refine qr5f aJ ?_
      refine aB ?_)
   | (refine rG 3 ?_
      refine kC ?_
      refine aB ?_))
  refine AWp.round (fun k : Nat => mkSt 26 [(0, .c (lsI a)), (1, .c (lsI b)), (5, .c (iC (k : Nat)))] [] []) (fun k => k ≤ a.length ∧ ∀ i, i < k → fI a i = fI b i) (fun k => a.length - k) 0 ⟨Nat.zero_le _, fun _ h => absurd h (Nat.not_lt_zero _)⟩ ?_ (fun k hk => ?_)
  ·refine Wk.mk [] rfl rfl rfl ?_ trivial
   exact allT
  obtain ⟨hk, hok⟩ := hk
  by_cases hkl : k < a.length
  ·have hkl' : (k : Int) < a.length := by omega
   by_cases he : fI a k = fI b k
   ·repeat (first
     | refine AWp.seq ?_
     | refine thenA_n ?_
     | refine AWp.block ?_
     | refine AWp.skip ?_
     | refine inBlk_n ?_
     | refine AWp.condT rfl cnT ?_
     | refine AWp.condF rfl cnF ?_
     | (refine rG 4 ?_
        (iterate 2 refine kA ?_)
        refine qr5 (aO tyOk) ?_
        refine qr5t aK ?_
        refine aB ?_)
     | (refine rG 5 ?_
        refine kA ?_
        refine qr4w2 aL ?_
        refine kC ?_
        refine aB ?_)
     | (refine AWp.draw (id := 6) mixed ?_; (iterate 2 refine kA ?_); refine qr8eo2 (aP (k := k) tyOk) ?_; refine qr5o (aV tyOk) ?_; (iterate 2 refine kA ?_); refine qr8eo2 (aP (k := k) tyOk) ?_; refine qr5o (aV tyOk) ?_; refine qr5f aJ ?_; refine aB ⟨by kernel_rfl, ?_⟩))
    refine ⟨k + 1, ⟨hkl, fun i hi => ?_⟩, Wk.mk [] rfl rfl rfl ?_ trivial, by omega⟩
    ·by_cases ei : i = k
     ·rw [ei]; exact he
     ·exact hok i (by omega)
    ·exact allT
   ·obtain rfl : v = false := by rw [← hv]; exact decide_eq_false fun e => he (by rw [e])
    repeat (first
     | refine AWp.seq ?_
     | refine thenA_n ?_
     | refine AWp.block ?_
     | refine AWp.skip ?_
     | refine AWp.ret ?_
     | refine thenA_r ?_
     | refine inBlk_r ?_
     | refine AWp.condT rfl cnT ?_
     | (refine rG 4 ?_
        (iterate 2 refine kA ?_)
        refine qr5 (aO tyOk) ?_
        refine qr5t aK ?_
        refine aB ?_)
     | (refine AWp.draw (id := 6) mixed ?_; (iterate 2 refine kA ?_); refine qr8eo2 (aP (k := k) tyOk) ?_; refine qr5o (aV tyOk) ?_; (iterate 2 refine kA ?_); refine qr8eo2 (aP (k := k) tyOk) ?_; refine qr5o (aV tyOk) ?_; refine qr5t aK ?_; refine aB ⟨by kernel_rfl, ?_⟩)
     | (refine rG 7 ?_
        refine kC ?_
        refine aB ?_))
    refine ⟨mkSt 26 [(4, .c (bC false))] [] [], [], Wk.mk [] rfl rfl rfl ?_ trivial, rfl, rfl, ARets.one (x := .c _) (ARes.tmp rfl rfl)⟩
    exact allT
  ·have hkl' : ¬ (k : Int) < a.length := by omega
   obtain rfl : k = a.length := by omega
   obtain rfl : v = true := by rw [← hv]; exact decide_eq_true (fI_ext hl hok)
   repeat (first
    | refine AWp.seq ?_
    | refine thenA_n ?_
    | refine AWp.exit ?_
    | refine AWp.ret ?_
    | refine AWp.condF rfl cnF ?_
    | (refine rG 4 ?_
       (iterate 2 refine kA ?_)
       refine qr5 (aO tyOk) ?_
       refine qr5f aJ ?_
       refine aB ?_)
    | (refine rG 8 ?_
       refine kC ?_
       refine aB ?_))
   refine ⟨mkSt 26 [(4, .c (bC true))] [] [], [], Wk.mk [] rfl rfl rfl ?_ trivial, rfl, rfl, ARets.one (x := .c _) (ARes.tmp rfl rfl)⟩
   exact allT
 ·have hl' : ¬ ((a.length : Nat) : Int) = b.length := by omega
  obtain rfl : v = false := by rw [← hv]; exact decide_eq_false fun e => hl (by rw [e])
  repeat (first
   | refine AWp.seq ?_
   | refine thenA_n ?_
   | refine AWp.ret ?_
   | refine thenA_r ?_
   | refine AWp.condT rfl cnT ?_
   | (refine rG 0 ?_
      refine kC ?_
      refine aB ?_)
   | (refine rG 1 ?_
      refine kA ?_
      refine qr5 (aO tyOk) ?_
      refine kA ?_
      refine qr5 (aO tyOk) ?_
      refine qr5t aK ?_
      refine aB ?_)
   | (refine rG 2 ?_
      refine kC ?_
      refine aB ?_))
  refine ⟨mkSt 26 [(4, .c (bC false))] [] [], [], Wk.mk [] rfl rfl rfl ?_ trivial, rfl, rfl, ARets.one (x := .c _) (ARes.tmp rfl rfl)⟩
  exact allT
theorem tryV_len2 {rec : List Int → Int → FR} {p : Pb} {ch : List Int} {M : Nat} (hr : ∀ c st, (rec (ch ++ [c]) st).1.length ≤ M) : ∀ (r c : Nat) (st : Int), (tryV rec p ch r c st).1.length ≤ M
 | 0, _, _ => Nat.zero_le _
 | r + 1, c, st => by
   by_cases h1 : 20000 < st + 1
   ·rw [tryV_over h1]; exact Nat.zero_le _
   ·cases hf : freeV p ch.length (fI ch) c with
    | false => rw [tryV_skip h1 hf]; exact tryV_len2 hr r _ _
    | true =>
      by_cases he : (rec (ch ++ [(c : Int)]) (st + 1)).2.1 = 60
      ·rw [tryV_go h1 hf he]; exact tryV_len2 hr r _ _
      ·rw [tryV_out h1 hf he]; exact hr _ _
theorem fromV_len {p : Pb} : ∀ (m : Nat) (ch : List Int) (st : Int), (fromV p m ch st).1.length ≤ ch.length + m
 | 0, ch, _ => Nat.le_refl _
 | m + 1, ch, st => tryV_len2 (fun c st => by have := fromV_len (p := p) m (ch ++ [c]) st; rw [List.length_append] at this; have e : [c].length = 1 := rfl; omega) _ _ _
theorem solveV_len (p : Pb) : (solveV p).1.length ≤ p.C.length := by
 unfold solveV
 split
 ·have := fromV_len (p := p) p.C.length [] 0
  simpa using this
 ·exact Nat.zero_le _
set_option maxRecDepth 100000 in
theorem solved28_A (p : Pb) (hp : p.ok) (want : List Int) : ACalls Try.prog 29 [.ag (pbC p), .c (lsI want)] (.c (bC (decide (solveV p = (want, 0))))) := by
 have hS := Solve28_A p hp
 have hl := solveV_len p
 have lC := hp.lC
 generalize solveV p = o at *
 obtain ⟨l, e⟩ := o
 dsimp only at hS hl
 have hI := SameInts_A l want (by omega)
 by_cases he : e = 0
 ·subst he
  rw [show decide ((l, (0 : Int)) = (want, 0)) = decide (l = want) by rw [decide_eq_decide]; simp]
  generalize decide (l = want) = v at *
  refine acalls_at Try.func29 rfl rfl Try.ntmps29 rfl ?_
  repeat (first
   | refine AWp.seq ?_
   | refine thenA_n ?_
   | refine AWp.ret ?_
   | (refine rG 0 ?_
      refine qr5 aQ ?_
      refine kC ?_
      refine aB ?_)
   | (refine rG 1 ?_
      refine kF ?_
      refine aH rfl rfl rfl rfl Try.func21 rfl (by kernel_rfl) (hS) ?_
      refine kA ?_
      (iterate 2 refine qr4 aN ?_)
      (iterate 2 refine kC ?_)
      refine aB ?_)
   | (refine rG 2 ?_
      refine kA ?_
      refine qr5 aW ?_
      (iterate 3 refine kA ?_)
      refine aH rfl rfl rfl rfl Try.func23 rfl (by kernel_rfl) (hI) ?_
      refine qr4 aS ?_
      refine kC ?_
      refine aB ?_))
  refine ⟨mkSt 19 [(4, .c (bC v))] [] [], [], Wk.mk [] rfl rfl rfl ?_ trivial, rfl, rfl, ARets.one (x := .c _) (ARes.tmp rfl rfl)⟩
  exact allT
 ·rw [decide_eq_false (show ¬ (l, e) = (want, 0) from fun h => he (congrArg Prod.snd h))]
  refine acalls_at Try.func29 rfl rfl Try.ntmps29 rfl ?_
  repeat (first
   | refine AWp.seq ?_
   | refine thenA_n ?_
   | refine AWp.ret ?_
   | (refine rG 0 ?_
      refine qr5 aQ ?_
      refine kC ?_
      refine aB ?_)
   | (refine rG 1 ?_
      refine kF ?_
      refine aH rfl rfl rfl rfl Try.func21 rfl (by kernel_rfl) (hS) ?_
      refine kA ?_
      (iterate 2 refine qr4 aN ?_)
      (iterate 2 refine kC ?_)
      refine aB ?_)
   | (refine rG 2 ?_
      refine kA ?_
      refine qr5f aJ ?_
      refine kA ?_
      (iterate 3 refine qr2 aG ?_)
      refine qr4 aR ?_
      refine kC ?_
      refine aB ?_))
  refine ⟨mkSt 19 [(4, .c (bC false))] [] [], [], Wk.mk [] rfl rfl rfl ?_ trivial, rfl, rfl, ARets.one (x := .c _) (ARes.tmp rfl rfl)⟩
  exact allT
set_option maxRecDepth 100000 in
theorem refused28_A (p : Pb) (hp : p.ok) (want : Int) : ACalls Try.prog 30 [.ag (pbC p), .c (iC want)] (.c (bC (decide (solveV p = ([], want))))) := by
 have hS := Solve28_A p hp
 generalize solveV p = o at *
 obtain ⟨l, e⟩ := o
 dsimp only at hS
 by_cases he : e = want
 ·subst he
  rw [show decide ((l, e) = ([], e)) = decide (l = []) by rw [decide_eq_decide]; simp]
  by_cases hl : l = []
  ·subst hl
   rw [decide_eq_true rfl]
   refine acalls_at Try.func30 rfl rfl Try.ntmps30 rfl ?_
   repeat (first
    | refine AWp.seq ?_
    | refine thenA_n ?_
    | refine AWp.ret ?_
    | (refine rG 0 ?_
       refine qr5 aQ ?_
       refine kC ?_
       refine aB ?_)
    | (refine rG 1 ?_
       refine kF ?_
       refine aH rfl rfl rfl rfl Try.func21 rfl (by kernel_rfl) (hS) ?_
       refine kA ?_
       (iterate 2 refine qr4 aN ?_)
       (iterate 2 refine kC ?_)
       refine aB ?_)
    | (refine rG 2 ?_
       (iterate 2 refine kA ?_)
       refine aK rfl rfl rfl rfl rfl (by simp only [cmpP, eq_self, decide_true]) ?_
       (iterate 2 refine kA ?_)
       refine qr5 (aO tyOk) ?_
       refine qr5 aW ?_
       refine qr4 aS ?_
       refine kC ?_
       refine aB ?_))
   refine ⟨mkSt 20 [(4, .c (bC true))] [] [], [], Wk.mk [] rfl rfl rfl ?_ trivial, rfl, rfl, ARets.one (x := .c _) (ARes.tmp rfl rfl)⟩
   exact allT
  ·have hl' : ¬ ((l.length : Nat) : Int) = 0 := fun h => hl (List.eq_nil_of_length_eq_zero (by omega))
   rw [decide_eq_false hl]
   refine acalls_at Try.func30 rfl rfl Try.ntmps30 rfl ?_
   repeat (first
    | refine AWp.seq ?_
    | refine thenA_n ?_
    | refine AWp.ret ?_
    | (refine rG 0 ?_
       refine qr5 aQ ?_
       refine kC ?_
       refine aB ?_)
    | (refine rG 1 ?_
       refine kF ?_
       refine aH rfl rfl rfl rfl Try.func21 rfl (by kernel_rfl) (hS) ?_
       refine kA ?_
       (iterate 2 refine qr4 aN ?_)
       (iterate 2 refine kC ?_)
       refine aB ?_)
    | (refine rG 2 ?_
       (iterate 2 refine kA ?_)
       refine aK rfl rfl rfl rfl rfl (by simp only [cmpP, eq_self, decide_true]) ?_
       (iterate 2 refine kA ?_)
       refine qr5 (aO tyOk) ?_
       refine qr5f aJ ?_
       refine qr4 aS ?_
       refine kC ?_
       refine aB ?_))
   refine ⟨mkSt 20 [(4, .c (bC false))] [] [], [], Wk.mk [] rfl rfl rfl ?_ trivial, rfl, rfl, ARets.one (x := .c _) (ARes.tmp rfl rfl)⟩
   exact allT
 ·rw [decide_eq_false (show ¬ (l, e) = ([], want) from fun h => he (congrArg Prod.snd h))]
  refine acalls_at Try.func30 rfl rfl Try.ntmps30 rfl ?_
  repeat (first
   | refine AWp.seq ?_
   | refine thenA_n ?_
   | refine AWp.ret ?_
   | (refine rG 0 ?_
      refine qr5 aQ ?_
      refine kC ?_
      refine aB ?_)
   | (refine rG 1 ?_
      refine kF ?_
      refine aH rfl rfl rfl rfl Try.func21 rfl (by kernel_rfl) (hS) ?_
      refine kA ?_
      (iterate 2 refine qr4 aN ?_)
      (iterate 2 refine kC ?_)
      refine aB ?_)
   | (refine rG 2 ?_
      (iterate 2 refine kA ?_)
      refine qr5f aJ ?_
      refine kA ?_
      (iterate 3 refine qr2 aG ?_)
      refine qr4 aR ?_
      refine kC ?_
      refine aB ?_))
  refine ⟨mkSt 20 [(4, .c (bC false))] [] [], [], Wk.mk [] rfl rfl rfl ?_ trivial, rfl, rfl, ARets.one (x := .c _) (ARes.tmp rfl rfl)⟩
  exact allT
end Go.Proofs.Ytjjaehpkccejaaa
end
