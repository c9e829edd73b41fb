/- Parts of the proof: A28k, A28l, A28m, A28q. -/
import Derived.Test.YtjjaehpkccejaaaG29
import Derived.Test.YtjjaehpkccejaaaG25
import Derived.Test.YtjjaehpkccejaaaG26
import Derived.DeepKeys4
import Derived.Test.YtjjaehpkccejaaaG15
set_option linter.unusedSimpArgs false
set_option linter.unusedVariables false
section
namespace Go.Proofs.Ytjjaehpkccejaaa
open Go.RowKit Go.Flow Go.AV Go.Plain
def labB (p : Pb) (l c : Int) : Bp := if l < 0 then p.F.getD c.toNat bpZ else (p.C.getD l.toNat []).getD c.toNat bpZ
def labG (p : Pb) (l c : Int) : Bg := if l < 0 then p.T.getD c.toNat bgZ else p.O.getD l.toNat bgZ
/-- Whether two picks clash. -/
def pkV (p : Pb) (a b c d : Int) : Bool := (clashV p.R (labB p a b) (labB p c d) (labG p a b) (labG p c d)).2.2
def PkOk (p : Pb) (l c : Int) : Prop := (l = -1 ∧ ∃ k : Nat, c = k ∧ k < p.F.length ∧ k < p.T.length) ∨ (∃ i k : Nat, l = i ∧ c = k ∧ i < p.C.length ∧ i < p.O.length ∧ k < (p.C.getD i []).length)
def gP (p : Pb) : Value → Bool
 | .agg v => match v.toList with
   | [.int _ a, .int _ b, .int _ c, .int _ d] => pkV p a b c d
   | _ => false
 | _ => false
abbrev pkKey (a b c d : Int) : List Value := [.int .i64 a, .int .i64 b, .int .i64 c, .int .i64 d]
theorem pair_law : WideMaps.KeyLaw Try.prog 137 := deep_law_laid (by kernel_rfl) (m := 3) (by omega) (of_decide_eq_true (by kernel_rfl)) (by kernel_rfl) (by rw [Try.underlying137])
theorem pair_key {a b c d : Int} (ha : (Lit.int .i64 a).wf = true) (hb : (Lit.int .i64 b).wf = true) (hc : (Lit.int .i64 c).wf = true) (hd : (Lit.int .i64 d).wf = true) : ∃ kl, keyOf Try.prog 137 (.agg (pkKey a b c d).toArray) = some kl := by
 obtain ⟨m, hm⟩ : ∃ m, Try.prog.types.size = m + 2 := ⟨Try.prog.types.size - 2, of_decide_eq_true (by kernel_rfl)⟩
 have k1 : Try.prog.keyType 137 = true := by kernel_rfl
 have c1 : Try.prog.cellsOf 137 = 4 := by kernel_rfl
 have c2 : Try.prog.cellsOf 122 = 2 := by kernel_rfl
 have c3 : Try.prog.cellsOf 3 = 1 := by kernel_rfl
 have int1 : ∀ (n : Nat) (x : Int), (Lit.int .i64 x).wf = true → Try.prog.keyLits (n + 1) 3 [.int .i64 x] = some [.int .i64 x] := fun n x h => by
  unfold Program.keyLits
  rw [Try.underlying3]
  simp [h]
 have pick1 : ∀ (n : Nat) (x y : Int), (Lit.int .i64 x).wf = true → (Lit.int .i64 y).wf = true → Try.prog.keyLits (n + 2) 122 [.int .i64 x, .int .i64 y] = some [.int .i64 x, .int .i64 y] := fun n x y h1 h2 => by
  unfold Program.keyLits
  rw [Try.underlying122]
  simp [c2, c3, int1, h1, h2]
 have hf : (Value.agg (pkKey a b c d).toArray).formed Try.prog 137 = true := by simp [Value.formed, Try.underlying137, c1]
 unfold keyOf
 rw [Try.underlying137]
 simp only [k1, hf, hm]
 unfold Program.keyLits
 rw [Try.underlying137]
 simp [c1, c2, pick1, ha, hb, hc, hd, Value.cells]
abbrev srC (p : Pb) (m : Nat) (st : Int) : List CV := pbC p ++ [.ow m, iC st]
abbrev srB (p : Pb) (m : Nat) (st : Int) : AB := ⟨false, 1, 7, 96, lF (srC p m st)⟩
abbrev knK (p : Pb) : Array MapEntry → Nat → Prop := KM Try.prog 137 (gP p)
abbrev knB (p : Pb) : AB := moB 94 (knK p)
theorem HeapOk.lentMo {S : St} {ren : List (Nat × Option Nat)} {id : Nat} {ty : TypeId} {K K' : Array MapEntry → Nat → Prop} (hb : Nat.ble 1000 id = true) (hh : S.h id = some (moB ty K)) (hK : ∀ es c, K es c → K' es c) : HeapOk S ren id (moB ty K') :=
 .inr ⟨id, 1, moF K, .inr ⟨Nat.ble_eq.mp hb, rfl⟩, rfl, hh, fun _ _ _ _ => LeC.moW _ _ fun _ _ ⟨es, c, e, h⟩ => ⟨es, c, e, hK es c h⟩⟩
theorem HeapOk.mo {S : St} {ren : List (Nat × Option Nat)} {id o : Nat} {ty : TypeId} {K K' : Array MapEntry → Nat → Prop} (hr : assoc ren id = some (some o)) (hh : S.h o = some (moB ty K)) (hK : ∀ es c, K es c → K' es c) : HeapOk S ren id (moB ty K') :=
 .inr ⟨o, 1, moF K, .inl hr, rfl, hh, fun _ _ _ _ => LeC.moW _ _ fun _ _ ⟨es, c, e, h⟩ => ⟨es, c, e, hK es c h⟩⟩
theorem LendOk2.mo {S : St} {all : List Nat} {id : Nat} {ty : TypeId} {K : Array MapEntry → Nat → Prop} {ids : List Nat} {bs : List AB} (hh : S.h id = some (moB ty K)) (hr : LendOk2 S all ids bs) : LendOk2 S all (id :: ids) (moB ty K :: bs) :=
 ⟨⟨_, hh, fun h => (by cases h), fun _ _ _ _ => LentC.imm rfl⟩, hr⟩
theorem BackB.same {ids ni : List Nat} {B : AB} {l m : List AB} (hi : ∀ k, k < B.n → ∀ j, j < B.sz → immC (B.F k j) = true) (hr : BackB ids ni l m) : BackB ids ni (B :: l) (B :: m) := ⟨⟨B.F, rfl, fun k hk j hj => .imm _ (hi k hk j hj)⟩, hr⟩
theorem lendS {S : St} {all ids : List Nat} {bs : List AB} {p : Pb} {i1 i2 : Nat} {st : Int} {F : Nat → Nat → CV} (h1 : S.h i1 = some ⟨false, 1, 7, 96, F⟩) (hF : cellsFrom (F 0) 0 7 = srC p i2 st) (hp : posOf all i2 = some 1) (h2 : S.h i2 = some (knB p)) (hr : LendOk2 S all ids bs) :
 LendOk2 S all (i1 :: i2 :: ids) (srB p 1001 st :: knB p :: bs) :=
 LendOk2.box h1 (by
  rw [hF]
  exact ⟨.imm rfl, .imm rfl, .imm rfl, .imm rfl, .imm rfl, .ow (by rw [hp]; rfl), .imm rfl, trivial⟩) rfl (LendOk2.mo h2 hr)
theorem backS {ids ni : List Nat} {p : Pb} {i2 : Nat} {st : Int} {l m : List AB} (hp : posOf ids i2 = some 1) (hr : BackB ids ni l m) : BackB ids ni (srB p 1001 st :: knB p :: l) (srB p i2 st :: knB p :: m) :=
 ⟨⟨_, rfl, fun k hk j hj => by
   obtain rfl : k = 0 := by have : k < 1 := hk; omega
   have hj : j < 7 := hj
   have : j = 0 ∨ j = 1 ∨ j = 2 ∨ j = 3 ∨ j = 4 ∨ j = 5 ∨ j = 6 := by omega
   rcases this with rfl | rfl | rfl | rfl | rfl | rfl | rfl
   ·exact .imm _ rfl
   ·exact .imm _ rfl
   ·exact .imm _ rfl
   ·exact .imm _ rfl
   ·exact .imm _ rfl
   ·exact .ow 1 i2 hp
   ·exact .imm _ rfl⟩, BackB.same (fun _ _ _ _ => rfl) hr⟩
theorem backI {ids ni : List Nat} : ∀ {l : List CV}, l.all immC = true → LeL (BackC ids ni) l l
 | [], _ => trivial
 | x :: l, h => by
   rw [List.all_cons, Bool.and_eq_true] at h
   exact ⟨.imm x h.1, backI h.2⟩
theorem backTu2 {ids ni : List Nat} (l m : List CV) (hl : l.all immC = true) (hm : m.all immC = true) : BackA ids ni (.tu [.ag l, .ag m]) (.tu [.ag l, .ag m]) := .tu ⟨.ag (backI hl), .ag (backI hm), trivial⟩
theorem backP {ids ni : List Nat} (x : CV) (h : immC x = true) : BackA ids ni (.c x) (.c x) := .c (.imm x h)
set_option maxHeartbeats 1000000 in
set_option maxRecDepth 100000 in
theorem label_A (p : Pb) (hp : p.ok) (st l c : Int) (h : PkOk p l c) : GCalls Try.prog 81 [.c (.pt 1000 7 0 0), .ag [iC l, iC c]] [srB p 1001 st, knB p] (.tu [.ag (bpC (labB p l c)), .ag (bgC (labG p l c))]) [srB p 1001 st, knB p] [] := by
 obtain ⟨hrd, lR, lC, lF', lO, lT, lc⟩ := hp
 unfold labB labG
 rcases h with ⟨rfl, k, rfl, h1, h2⟩ | ⟨i, k, rfl, rfl, h1, h2, h3⟩
 ·rw [if_pos (by decide), if_pos (by decide), Int.toNat_natCast]
  refine ge_at Try.func81 rfl rfl Try.ntmps81 rfl ?_
  repeat (first
   | refine AWp.seq ?_
   | refine thenA_n ?_
   | refine AWp.ret ?_
   | refine thenA_r ?_
   | refine AWp.condT rfl cnT ?_
   | (refine rG 0 ?_
      refine qr5 aQ ?_
      (iterate 2 refine qr5 (aM tyOk) ?_)
      refine aB ?_)
   | (refine rG 1 ?_
      refine kD ?_
      refine kE ?_
      refine qr5t aK ?_
      refine aB ?_)
   | (refine AWp.draw (id := 2) mixed ?_; refine kA ?_; refine AList.nilPt rfl rfl rfl rfl ?_; (iterate 2 refine kD ?_); refine kE ?_; refine kD ?_; refine kE ?_; refine qr8eo2 (aP (k := k) tyOk) ?_; refine qr5o (aT tyOk) ?_; refine kA ?_; refine AList.nilPt rfl rfl rfl rfl ?_; (iterate 2 refine kD ?_); refine kE ?_; refine kD ?_; refine kE ?_; refine qr8eo2 (aP (k := k) tyOk) ?_; refine qr5o (aT tyOk) ?_; (iterate 2 refine kI ?_); refine aB ⟨by kernel_rfl, ?_⟩))
  refine ⟨mkL 49 2 [(4, .c (.pt 4 3 0 0)), (5, .c (.pt 5 4 0 0))] [(4, ⟨false, 1, 3, 47, lF (bpC (p.F.getD k bpZ))⟩), (5, ⟨false, 1, 4, 42, lF (bgC (p.T.getD k bgZ))⟩), (1000, srB p 1001 st), (1001, knB p)] [4, 5], [(4, ⟨false, 1, 3, 47, lF (bpC (p.F.getD k bpZ))⟩), (5, ⟨false, 1, 4, 42, lF (bgC (p.T.getD k bgZ))⟩)], _, [srB p 1001 st, knB p], [], ⟨rfl, rfl, rfl⟩, rfl, Wk.mkL [(4, some 4), (5, some 5)] rfl rfl rfl rfl rfl ?_ ?_, rfl, rfl, GRets.two (x := .ag _) (y := .ag _) (GRes.box tyOk rfl rfl rfl rfl rfl rfl) (GRes.box tyOk rfl rfl rfl rfl rfl rfl)⟩
  ·exact allT
  ·exact ⟨hSm, hSm,
   HeapOk.lentC rfl rfl ⟨LeC.refl _ rfl, LeC.refl _ rfl, LeC.refl _ rfl, LeC.refl _ rfl, LeC.refl _ rfl, LeC.owB 1001 rfl, LeC.int rfl, trivial⟩ rfl, HeapOk.lentMo rfl rfl (fun _ _ h => h)
   , trivial⟩
 ·have hl0 : ¬ (i : Int) < 0 := by omega
  have hlc := lc _ (getD_mem28 (z := []) h1)
  rw [if_neg hl0, if_neg hl0, Int.toNat_natCast, Int.toNat_natCast]
  obtain ⟨L, hL⟩ : ∃ L, p.C.getD i [] = L := ⟨_, rfl⟩
  rw [hL] at h3 hlc ⊢
  have hcF : chF p.C i 0 = lsB L := by rw [← hL]
  refine ge_at Try.func81 rfl rfl Try.ntmps81 rfl ?_
  repeat (first
   | refine AWp.seq ?_
   | refine thenA_n ?_
   | refine AWp.skip ?_
   | refine AWp.ret ?_
   | refine AWp.condF rfl cnF ?_
   | (refine rG 0 ?_
      refine qr5 aQ ?_
      (iterate 2 refine qr5 (aM tyOk) ?_)
      refine aB ?_)
   | (refine rG 1 ?_
      refine kD ?_
      refine kE ?_
      refine qr5f aJ ?_
      refine aB ?_)
   | (refine AWp.draw (id := 3) mixed ?_; refine kA ?_; refine AList.nilPt rfl rfl rfl rfl ?_; (iterate 2 refine kD ?_); refine kE ?_; refine kD ?_; refine kE ?_; refine qr8eo2 (aP (k := i) tyOk) ?_; refine AList.load1lE tyOk (hcF) rfl rfl rfl rfl rfl oM ?_; refine kD ?_; refine kE ?_; refine qr8eo2 (aP (k := k) tyOk) ?_; refine qr5o (aT tyOk) ?_; refine kA ?_; refine AList.nilPt rfl rfl rfl rfl ?_; (iterate 2 refine kD ?_); refine kE ?_; refine kD ?_; refine kE ?_; refine qr8eo2 (aP (k := i) tyOk) ?_; refine qr5o (aT tyOk) ?_; (iterate 2 refine kI ?_); refine aB ⟨by kernel_rfl, ?_⟩))
  refine ⟨mkL 49 2 [(4, .c (.pt 4 3 0 0)), (5, .c (.pt 5 4 0 0))] [(4, ⟨false, 1, 3, 47, lF (bpC (L.getD k bpZ))⟩), (5, ⟨false, 1, 4, 42, lF (bgC (p.O.getD i bgZ))⟩), (1000, srB p 1001 st), (1001, knB p)] [4, 5], [(4, ⟨false, 1, 3, 47, lF (bpC (L.getD k bpZ))⟩), (5, ⟨false, 1, 4, 42, lF (bgC (p.O.getD i bgZ))⟩)], _, [srB p 1001 st, knB p], [], ⟨rfl, rfl, rfl⟩, rfl, Wk.mkL [(4, some 4), (5, some 5)] rfl rfl rfl rfl rfl ?_ ?_, rfl, rfl, GRets.two (x := .ag _) (y := .ag _) (GRes.box tyOk rfl rfl rfl rfl rfl rfl) (GRes.box tyOk rfl rfl rfl rfl rfl rfl)⟩
  ·exact allT
  ·exact ⟨hSm, hSm,
   HeapOk.lentC rfl rfl ⟨LeC.refl _ rfl, LeC.refl _ rfl, LeC.refl _ rfl, LeC.refl _ rfl, LeC.refl _ rfl, LeC.owB 1001 rfl, LeC.int rfl, trivial⟩ rfl, HeapOk.lentMo rfl rfl (fun _ _ h => h)
   , trivial⟩
end Go.Proofs.Ytjjaehpkccejaaa
end

section
namespace Go.Proofs.Ytjjaehpkccejaaa
open Go.RowKit Go.Flow Go.AV Go.Plain
theorem pick_ne {a b c d : Int} (h : a ≠ c) (w : World) : (Go.binOp .eql 122 (.agg #[.int .i64 a, .int .i64 b]) (.agg #[.int .i64 c, .int .i64 d])).run Try.prog w = .ok (.bool false) w := by
 have hp : Try.prog.stoodInHeld 122 = false := by kernel_rfl
 go_simp
theorem wfN {k : Nat} (h : k ≤ 1000000) : (Lit.int .i64 (k : Int)).wf = true := by
 have e1 : IntKind.i64.min = -9223372036854775808 := by decide
 have e2 : IntKind.i64.max = 9223372036854775807 := by decide
 simp only [Lit.wf, e1, e2, Bool.and_eq_true, decide_eq_true_eq]
 omega
theorem PkOk.wf {p : Pb} (hp : p.ok) {l c : Int} (h : PkOk p l c) : (Lit.int .i64 l).wf = true ∧ (Lit.int .i64 c).wf = true := by
 obtain ⟨hrd, lR, lC, lF', lO, lT, lc⟩ := hp
 rcases h with ⟨rfl, k, rfl, h1, h2⟩ | ⟨i, k, rfl, rfl, h1, h2, h3⟩
 ·exact ⟨by decide, wfN (by omega)⟩
 ·have := lc _ (getD_mem28 (z := []) h1)
  exact ⟨wfN (by omega), wfN (by omega)⟩
set_option maxHeartbeats 2000000 in
set_option maxRecDepth 100000 in
theorem sclash_A (p : Pb) (hp : p.ok) (st l1 c1 l2 c2 : Int) (h1 : PkOk p l1 c1) (h2 : PkOk p l2 c2) (hne : l1 ≠ l2) : GCalls Try.prog 63 [.c (.pt 1000 7 0 0), .ag [iC l1, iC c1], .ag [iC l2, iC c2]] [srB p 1001 st, knB p] (.c (bC (pkV p l1 c1 l2 c2))) [srB p 1001 st, knB p] [] := by
 have hL1 := label_A p hp st l1 c1 h1
 have hL2 := label_A p hp st l2 c2 h2
 obtain ⟨w1, w2⟩ := h1.wf hp
 obtain ⟨w3, w4⟩ := h2.wf hp
 obtain ⟨kl, hkl⟩ := pair_key w1 w2 w3 w4
 have hC := Clash_A p (labB p l1 c1) (labB p l2 c2) (labG p l1 c1) (labG p l2 c2) hp.lR hp.rd
 have hV : (clashV p.R (labB p l1 c1) (labB p l2 c2) (labG p l1 c1) (labG p l2 c2)).2.2 = pkV p l1 c1 l2 c2 := rfl
 have hG : gP p (.agg (pkKey l1 c1 l2 c2).toArray) = pkV p l1 c1 l2 c2 := rfl
 have hnq := pick_ne (b := c1) (d := c2) hne
 rw [hV] at hC
 generalize clashV p.R (labB p l1 c1) (labB p l2 c2) (labG p l1 c1) (labG p l2 c2) = V at hC
 obtain ⟨v, hv⟩ : ∃ v, pkV p l1 c1 l2 c2 = v := ⟨_, rfl⟩
 rw [hv] at hC hG ⊢
 refine ge_at Try.func63 rfl rfl Try.ntmps63 rfl ?_
 repeat (first
  | refine AWp.seq ?_
  | refine thenA_n ?_
  | refine AWp.skip ?_
  | refine AWp.condF rfl cnF ?_
  | (refine rG 0 ?_
     (iterate 2 refine qr5 aQ ?_)
     refine kC ?_
     refine aB ?_)
  | (refine rG 1 ?_
     (iterate 2 refine kF ?_)
     refine AList.binAg rfl rfl rfl rfl rfl rfl (by kernel_rfl) (hnq) ?_
     refine aB ?_)
  | (refine rG 3 ?_
     (iterate 2 refine kF ?_)
     refine qr8 (aX tyOk) ?_
     refine qr5 (aM tyOk) ?_
     refine kI ?_
     refine aB ?_))
 refine AWp.weak (S' :=
  mkL 63 2 [(0, .c (.pt 1000 7 0 0)), (4, .c (.pt 4 2 0 0)), (5, .c (.pt 5 2 0 0)), (7, .c (.pt 7 4 0 0)) , (6, .c (bC false))] [(4, ⟨false, 1, 2, 122, lF [iC l1, iC c1]⟩), (5, ⟨false, 1, 2, 122, lF [iC l2, iC c2]⟩), (7, ⟨false, 1, 4, 137, lF [iC l1, iC c1, iC l2, iC c2]⟩), (1000, srB p 1001 st), (1001, knB p)] [4, 5, 7]
  ) (Wk.mkL [(4, some 4), (5, some 5), (7, some 7)] rfl rfl rfl rfl rfl ?_ ?_) ?_
 ·repeat (first | exact trivial | refine ⟨⟨_, rfl, by first | exact LeA.c (LeC.ptB _ _ _ _ rfl) | exact leT⟩, ?_⟩)
 ·exact ⟨hSm, hSm, hSm,
  HeapOk.lentC rfl rfl ⟨LeC.refl _ rfl, LeC.refl _ rfl, LeC.refl _ rfl, LeC.refl _ rfl, LeC.refl _ rfl, LeC.owB 1001 rfl, LeC.int rfl, trivial⟩ rfl, HeapOk.lentMo rfl rfl (fun _ _ h => h)
  , trivial⟩
 refine AWp.askKM (id := 1001) (bt := 94) (kt := 137) (g := gP p) (.agg (pkKey l1 c1 l2 c2).toArray) rfl (fun has => ?_)
 cases has with
 | true =>
   refine AWp.draw mixed ?_
   refine kA ?_
   refine AList.nilPt rfl rfl rfl rfl ?_
   refine kD ?_
   refine kE ?_
   refine kF ?_
   refine AList.lookKH pair_law rfl rfl rfl rfl rfl rfl Try.underlying94 Try.underlying4 (fun u => by kernel_rfl) hkl ?_
   refine kA ?_
   (iterate 2 refine qr4 aN ?_)
   (iterate 2 refine kC ?_)
   refine aB ⟨by kernel_rfl, ?_⟩
   have hG' : (true && gP p (.agg (pkKey l1 c1 l2 c2).toArray)) = v := hG
   repeat (first
    | refine AWp.seq ?_
    | refine thenA_n ?_
    | refine AWp.skip ?_
    | refine AWp.ret ?_
    | refine AWp.condF rfl cnF ?_
    | (refine rG 5 ?_
       refine kA ?_
       refine qr3 AList.notB ?_
       refine aB ?_)
    | (refine rG 10 ?_
       refine kA ?_
       refine kC ?_
       refine aB ?_))
   refine ⟨mkL 63 2 [(6, .c (bC v))] [(1000, srB p 1001 st), (1001, knB p)] [], [], _, [srB p 1001 st, knB p], [], ⟨rfl, rfl, rfl⟩, rfl, Wk.mkL [] rfl rfl rfl rfl rfl ?_ ?_, rfl, rfl, GRets.one (x := .c _) (GRes.tmp rfl)⟩
   ·exact ⟨⟨_, rfl, .c (LeC.eq (congrArg bC hG') rfl)⟩, trivial⟩
   ·exact ⟨
    HeapOk.lentC rfl rfl ⟨LeC.refl _ rfl, LeC.refl _ rfl, LeC.refl _ rfl, LeC.refl _ rfl, LeC.refl _ rfl, LeC.owB 1001 rfl, LeC.int rfl, trivial⟩ rfl, HeapOk.lentMo rfl rfl (fun _ _ h => h.1), trivial⟩
 | false =>
   refine AWp.draw mixed ?_
   refine kA ?_
   refine AList.nilPt rfl rfl rfl rfl ?_
   refine kD ?_
   refine kE ?_
   refine kF ?_
   refine AList.lookKH pair_law rfl rfl rfl rfl rfl rfl Try.underlying94 Try.underlying4 (fun u => by kernel_rfl) hkl ?_
   refine kA ?_
   (iterate 2 refine qr4 aN ?_)
   (iterate 2 refine kC ?_)
   refine aB ⟨by kernel_rfl, ?_⟩
   refine AWp.weak (S' :=
    mkL 63 2 [(0, .c (.pt 1000 7 0 0)), (4, .c (.pt 4 2 0 0)), (5, .c (.pt 5 2 0 0)), (7, .c (.pt 7 4 0 0)) , (8, .c (bC false)), (9, .c (bC false))] [(4, ⟨false, 1, 2, 122, lF [iC l1, iC c1]⟩), (5, ⟨false, 1, 2, 122, lF [iC l2, iC c2]⟩), (7, ⟨false, 1, 4, 137, lF [iC l1, iC c1, iC l2, iC c2]⟩), (1000, srB p 1001 st), (1001, knB p)] [4, 5, 7]
    ) (Wk.mkL [(4, some 4), (5, some 5), (7, some 7)] rfl rfl rfl rfl rfl ?_ ?_) ?_
   ·repeat (first | exact trivial | refine ⟨⟨_, rfl, by first | exact LeA.c (LeC.ptB _ _ _ _ rfl) | exact leT⟩, ?_⟩)
   ·exact ⟨hSm, hSm, hSm,
    HeapOk.lentC rfl rfl ⟨LeC.refl _ rfl, LeC.refl _ rfl, LeC.refl _ rfl, LeC.refl _ rfl, LeC.refl _ rfl, LeC.owB 1001 rfl, LeC.int rfl, trivial⟩ rfl, HeapOk.lentMo rfl rfl (fun _ _ h => h.1), trivial⟩
   repeat (first
    | refine AWp.seq ?_
    | refine thenA_n ?_
    | refine AWp.condT rfl cnT ?_
    | (refine rG 5 ?_
       refine kA ?_
       refine qr3 AList.notB ?_
       refine aB ?_)
    | (refine rG 6 ?_
       refine kA ?_
       refine kF ?_
       refine AList.callG [1000, 1001] [] [srB p 1001 st, knB p] [srB p 1001 st, knB p] [] [srB p 1001 st, knB p] [] rfl rfl FnV.func rfl Try.func81 rfl (by kernel_rfl) (lendS rfl rfl rfl rfl trivial) rfl (backTu2 (bpC (labB p l1 c1)) (bgC (labG p l1 c1)) rfl rfl) (backS rfl trivial) (trivial) (hL1) ?_
       refine kA ?_
       (iterate 2 refine qr4 aN ?_)
       (iterate 2 refine qr5 (aM tyOk) ?_)
       (iterate 2 refine kI ?_)
       refine aB ?_)
    | (refine rG 7 ?_
       refine kA ?_
       refine kF ?_
       refine AList.callG [1000, 1001] [] [srB p 1001 st, knB p] [srB p 1001 st, knB p] [] [srB p 1001 st, knB p] [] rfl rfl FnV.func rfl Try.func81 rfl (by kernel_rfl) (lendS rfl rfl rfl rfl trivial) rfl (backTu2 (bpC (labB p l2 c2)) (bgC (labG p l2 c2)) rfl rfl) (backS rfl trivial) (trivial) (hL2) ?_
       refine kA ?_
       (iterate 2 refine qr4 aN ?_)
       (iterate 2 refine qr5 (aM tyOk) ?_)
       (iterate 2 refine kI ?_)
       refine aB ?_)
    | (refine AWp.draw (id := 8) mixed ?_; refine kA ?_; refine AList.nilPt rfl rfl rfl rfl ?_; refine kD ?_; (iterate 5 refine kF ?_); refine aH rfl rfl rfl rfl Try.func19 rfl (by kernel_rfl) (hC) ?_; refine kA ?_; (iterate 3 refine qr4 aN ?_); refine kC ?_; refine aB ⟨by kernel_rfl, ?_⟩))
   refine AWp.draw mixed ?_
   refine kA ?_
   refine AList.nilPt rfl rfl rfl rfl ?_
   refine kD ?_
   refine kE ?_
   refine kF ?_
   refine kA ?_
   refine AList.updKM pair_law rfl rfl rfl rfl (congrArg (fun z => some (AV.c (CV.p (.bool z)))) hG.symm) rfl (fun _ _ h => h) Try.underlying94 hkl ?_
   refine aB ⟨by kernel_rfl, ?_⟩
   repeat (first
    | refine AWp.seq ?_
    | refine thenA_n ?_
    | refine AWp.ret ?_
    | (refine rG 10 ?_
       refine kA ?_
       refine kC ?_
       refine aB ?_))
   refine ⟨mkL 63 2 [(6, .c (bC v))] [(1000, srB p 1001 st), (1001, knB p)] [], [], _, [srB p 1001 st, knB p], [], ⟨rfl, rfl, rfl⟩, rfl, Wk.mkL [] rfl rfl rfl rfl rfl ?_ ?_, rfl, rfl, GRets.one (x := .c _) (GRes.tmp rfl)⟩
   ·exact allT
   ·exact ⟨
    HeapOk.lentC rfl rfl ⟨LeC.refl _ rfl, LeC.refl _ rfl, LeC.refl _ rfl, LeC.refl _ rfl, LeC.refl _ rfl, LeC.owB 1001 rfl, LeC.int rfl, trivial⟩ rfl, HeapOk.lentMo rfl rfl (fun _ _ h => h)
    , trivial⟩
end Go.Proofs.Ytjjaehpkccejaaa
end

section
namespace Go.Proofs.Ytjjaehpkccejaaa
open Go.RowKit Go.Flow Go.AV Go.Plain
/-- Whether choice c of list n clashes with nothing that is there. -/
def freeV (p : Pb) (n : Nat) (ch : Nat → Int) (c : Int) : Bool := (List.range p.F.length).all (fun k => !pkV p n c (-1) k) && (List.range n).all (fun k => !pkV p n c k (ch k))
theorem freeV_iff {p : Pb} {n : Nat} {ch : Nat → Int} {c : Int} : freeV p n ch c = true ↔ (∀ k, k < p.F.length → pkV p n c (-1) k = false) ∧ (∀ k, k < n → pkV p n c k (ch k) = false) := by
 unfold freeV
 simp [List.all_eq_true]
theorem freeV_no {p : Pb} {n : Nat} {ch : Nat → Int} {c : Int} (h : ¬ ((∀ k, k < p.F.length → pkV p n c (-1) k = false) ∧ (∀ k, k < n → pkV p n c k (ch k) = false))) : freeV p n ch c = false :=
 Bool.eq_false_iff.2 fun e => h (freeV_iff.1 e)
set_option maxHeartbeats 2000000 in
set_option maxRecDepth 100000 in
theorem sfree_A (p : Pb) (hp : p.ok) (hT : p.T.length = p.F.length) (st : Int) (n : Nat) (ch : Nat → Int) (c : Int) (hn : n ≤ 1000000) (h1 : PkOk p n c) (h2 : ∀ k, k < n → PkOk p k (ch k)) : GCalls Try.prog 45 [.c (.pt 1000 7 0 0), .c (.ls n 1 (iF ch)), .c (iC c)] [srB p 1001 st, knB p] (.c (bC (freeV p n ch c))) [srB p 1001 st, knB p] [] := by
 have hp' := hp
 obtain ⟨hrd, lR, lC, lF', lO, lT, lc⟩ := hp
 have hsc := fun k h2 (hne : ((n : Nat) : Int) ≠ -1) => sclash_A p hp' st n c (-1) ((k : Nat) : Int) h1 h2 hne
 have hsd := fun k h2 (hne : ((n : Nat) : Int) ≠ ((k : Nat) : Int)) => sclash_A p hp' st n c k (ch k) h1 h2 hne
 refine ge_at Try.func45 rfl rfl Try.ntmps45 rfl ?_
 repeat (first
  | refine AWp.seq ?_
  | refine thenA_n ?_
  | refine AWp.block ?_
  | (refine rG 0 ?_
     refine kC ?_
     refine aB ?_)
  | (refine rG 1 ?_
     refine kA ?_
     refine qr5 (aO tyOk) ?_
     refine kA ?_
     refine qr8 (aX tyOk) ?_
     refine qr5 (aM tyOk) ?_
     refine kI ?_
     refine aB ?_)
  | (refine rG 2 ?_
     refine kA ?_
     refine AList.nilPt rfl rfl rfl rfl ?_
     (iterate 2 refine kD ?_)
     refine kE ?_
     refine qr5 (aO tyOk) ?_
     refine kA ?_
     refine aB ?_))
 refine AWp.round (fun k : Nat =>
  mkL 44 2 [(0, .c (.pt 1000 7 0 0)), (1, .c (.ls n 1 (iF ch))), (7, .c (.pt 7 2 0 0)), (20, .c (iC p.F.length)), (21, .c (iC (k : Nat)))] [(7, ⟨false, 1, 2, 122, lF [iC n, iC c]⟩), (1000, srB p 1001 st), (1001, knB p) ] [7]
  ) (fun k => k ≤ p.F.length ∧ ∀ j, j < k → pkV p n c (-1) j = false) (fun k => p.F.length - k) 0 ⟨Nat.zero_le _, fun _ h => absurd h (Nat.not_lt_zero _)⟩ ?_ (fun k hk => ?_)
 ·refine Wk.mkL [(7, some 7)] rfl rfl rfl rfl rfl ?_ ?_
  ·repeat (first | exact trivial | refine ⟨⟨_, rfl, by first | exact LeA.c (LeC.ptB _ _ _ _ rfl) | exact LeA.c (LeC.owB _ rfl) | exact leT⟩, ?_⟩)
  ·exact ⟨hSm,
   HeapOk.lentC rfl rfl ⟨LeC.refl _ rfl, LeC.refl _ rfl, LeC.refl _ rfl, LeC.refl _ rfl, LeC.refl _ rfl, LeC.owB 1001 rfl, LeC.int rfl, trivial⟩ rfl, HeapOk.lentMo rfl rfl (fun _ _ h => h)
   ,  trivial⟩
 obtain ⟨hk, hno⟩ := hk
 by_cases hkl : k < p.F.length
 ·have hkl' : (k : Int) < p.F.length := by omega
  have hct := hsc k (.inl ⟨rfl, k, rfl, hkl, by omega⟩) (by omega)
  have hfr := @freeV_no p n ch c
  obtain ⟨v, hv⟩ : ∃ v, pkV p n c (-1) k = v := ⟨_, rfl⟩
  rw [hv] at hct
  cases v with
  | true =>
    rw [hfr fun h => by rw [h.1 k hkl] at hv; cases hv]
    repeat (first
     | refine AWp.seq ?_
     | refine thenA_n ?_
     | refine AWp.block ?_
     | refine AWp.skip ?_
     | refine AWp.ret ?_
     | refine thenA_r ?_
     | refine inBlk_r ?_
     | refine AWp.condT rfl cnT ?_
     | (refine rG 3 ?_
        refine qr5t aK ?_
        refine aB ?_)
     | (refine rG 4 ?_
        refine kA ?_
        refine kC ?_
        refine aB ?_)
     | (refine rG 5 ?_
        refine kA ?_
        refine kF ?_
        refine kA ?_
        refine qr8 (aX tyOk) ?_
        refine AList.callG [1000, 1001] [] [srB p 1001 st, knB p] [srB p 1001 st, knB p] [] [srB p 1001 st, knB p] [] rfl rfl FnV.func rfl Try.func63 rfl (by kernel_rfl) (lendS rfl rfl rfl rfl trivial) rfl (backP (bC true) rfl) (backS rfl trivial) (trivial) (hct) ?_
        refine aB ?_)
     | (refine rG 6 ?_
        refine kC ?_
        refine aB ?_))
    refine ⟨mkL 44 2 [(6, .c (bC false))] [(1000, srB p 1001 st), (1001, knB p) ] [], [], _, [srB p 1001 st, knB p ], [], ⟨rfl, rfl, rfl⟩, rfl, Wk.mkL [] rfl rfl rfl rfl rfl ?_ ?_, rfl, rfl, GRets.one (x := .c _) (GRes.tmp rfl)⟩
    ·exact allT
    ·exact ⟨
     HeapOk.lentC rfl rfl ⟨LeC.refl _ rfl, LeC.refl _ rfl, LeC.refl _ rfl, LeC.refl _ rfl, LeC.refl _ rfl, LeC.owB 1001 rfl, LeC.int rfl, trivial⟩ rfl, HeapOk.lentMo rfl rfl (fun _ _ h => h)
     ,  trivial⟩
  | false =>
    repeat (first
     | refine AWp.seq ?_
     | refine thenA_n ?_
     | refine AWp.block ?_
     | refine AWp.skip ?_
     | refine inBlk_n ?_
     | refine AWp.condT rfl cnT ?_
     | refine AWp.condF rfl cnF ?_
     | (refine rG 3 ?_
        refine qr5t aK ?_
        refine aB ?_)
     | (refine rG 4 ?_
        refine kA ?_
        refine kC ?_
        refine aB ?_)
     | (refine rG 5 ?_
        refine kA ?_
        refine kF ?_
        refine kA ?_
        refine qr8 (aX tyOk) ?_
        refine AList.callG [1000, 1001] [] [srB p 1001 st, knB p] [srB p 1001 st, knB p] [] [srB p 1001 st, knB p] [] rfl rfl FnV.func rfl Try.func63 rfl (by kernel_rfl) (lendS rfl rfl rfl rfl trivial) rfl (backP (bC false) rfl) (backS rfl trivial) (trivial) (hct) ?_
        refine aB ?_)
     | (refine rG 7 ?_
        refine qr4w2 aL ?_
        refine kA ?_
        refine aB ?_))
    refine ⟨k + 1, ⟨hkl, fun j hj => ?_⟩, Wk.mkL [(7, some 7)] rfl rfl rfl rfl rfl ?_ ?_, by omega⟩
    ·by_cases e : j = k
     ·rw [e]; exact hv
     ·exact hno j (by omega)
    ·repeat (first | exact trivial | refine ⟨⟨_, rfl, by first | exact LeA.c (LeC.ptB _ _ _ _ rfl) | exact LeA.c (LeC.owB _ rfl) | exact leT⟩, ?_⟩)
    ·exact ⟨hSm,
     HeapOk.lentC rfl rfl ⟨LeC.refl _ rfl, LeC.refl _ rfl, LeC.refl _ rfl, LeC.refl _ rfl, LeC.refl _ rfl, LeC.owB 1001 rfl, LeC.int rfl, trivial⟩ rfl, HeapOk.lentMo rfl rfl (fun _ _ h => h)
     ,  trivial⟩
 have hkl' : ¬ (k : Int) < p.F.length := by omega
 obtain rfl : k = p.F.length := by omega
 clear hk hkl
 repeat (first
  | refine AWp.seq ?_
  | refine thenA_n ?_
  | refine AWp.block ?_
  | refine AWp.exit ?_
  | refine AWp.condF rfl cnF ?_
  | (refine rG 3 ?_
     refine qr5f aJ ?_
     refine aB ?_)
  | (refine rG 8 ?_
     refine kA ?_
     refine qr5 (aO tyOk) ?_
     refine kA ?_
     refine aB ?_))
 refine AWp.round (fun k : Nat =>
  mkL 44 2 [(0, .c (.pt 1000 7 0 0)), (1, .c (.ls n 1 (iF ch))), (7, .c (.pt 7 2 0 0)), (30, .c (.ls n 1 (iF ch))), (31, .c (iC n)), (32, .c (iC (k : Nat)))] [(7, ⟨false, 1, 2, 122, lF [iC n, iC c]⟩), (1000, srB p 1001 st), (1001, knB p) ] [7]
  ) (fun k => k ≤ n ∧ ∀ j, j < k → pkV p n c j (ch j) = false) (fun k => n - k) 0 ⟨Nat.zero_le _, fun _ h => absurd h (Nat.not_lt_zero _)⟩ ?_ (fun k hk => ?_)
 ·refine Wk.mkL [(7, some 7)] rfl rfl rfl rfl rfl ?_ ?_
  ·repeat (first | exact trivial | refine ⟨⟨_, rfl, by first | exact LeA.c (LeC.ptB _ _ _ _ rfl) | exact LeA.c (LeC.owB _ rfl) | exact leT⟩, ?_⟩)
  ·exact ⟨hSm,
   HeapOk.lentC rfl rfl ⟨LeC.refl _ rfl, LeC.refl _ rfl, LeC.refl _ rfl, LeC.refl _ rfl, LeC.refl _ rfl, LeC.owB 1001 rfl, LeC.int rfl, trivial⟩ rfl, HeapOk.lentMo rfl rfl (fun _ _ h => h)
   ,  trivial⟩
 obtain ⟨hk, hno2⟩ := hk
 by_cases hkl : k < n
 ·have hkl' : (k : Int) < n := by omega
  have hct := hsd k (h2 k hkl) (by omega)
  have hfr := @freeV_no p n ch c
  obtain ⟨v, hv⟩ : ∃ v, pkV p n c k (ch k) = v := ⟨_, rfl⟩
  rw [hv] at hct
  cases v with
  | true =>
    rw [hfr fun h => by rw [h.2 k hkl] at hv; cases hv]
    repeat (first
     | refine AWp.seq ?_
     | refine thenA_n ?_
     | refine AWp.block ?_
     | refine AWp.skip ?_
     | refine AWp.ret ?_
     | refine thenA_r ?_
     | refine inBlk_r ?_
     | refine AWp.condT rfl cnT ?_
     | (refine rG 9 ?_
        refine qr5t aK ?_
        refine aB ?_)
     | (refine rG 10 ?_
        refine kA ?_
        refine qr8eo2 (aP (k := k) tyOk) ?_
        refine qr5o (aV tyOk) ?_
        (iterate 2 refine kC ?_)
        refine aB ?_)
     | (refine rG 11 ?_
        refine kA ?_
        refine kF ?_
        (iterate 2 refine kA ?_)
        refine qr8 (aX tyOk) ?_
        refine AList.callG [1000, 1001] [] [srB p 1001 st, knB p] [srB p 1001 st, knB p] [] [srB p 1001 st, knB p] [] rfl rfl FnV.func rfl Try.func63 rfl (by kernel_rfl) (lendS rfl rfl rfl rfl trivial) rfl (backP (bC true) rfl) (backS rfl trivial) (trivial) (hct) ?_
        refine aB ?_)
     | (refine rG 12 ?_
        refine kC ?_
        refine aB ?_))
    refine ⟨mkL 44 2 [(6, .c (bC false))] [(1000, srB p 1001 st), (1001, knB p) ] [], [], _, [srB p 1001 st, knB p ], [], ⟨rfl, rfl, rfl⟩, rfl, Wk.mkL [] rfl rfl rfl rfl rfl ?_ ?_, rfl, rfl, GRets.one (x := .c _) (GRes.tmp rfl)⟩
    ·exact allT
    ·exact ⟨
     HeapOk.lentC rfl rfl ⟨LeC.refl _ rfl, LeC.refl _ rfl, LeC.refl _ rfl, LeC.refl _ rfl, LeC.refl _ rfl, LeC.owB 1001 rfl, LeC.int rfl, trivial⟩ rfl, HeapOk.lentMo rfl rfl (fun _ _ h => h)
     ,  trivial⟩
  | false =>
    repeat (first
     | refine AWp.seq ?_
     | refine thenA_n ?_
     | refine AWp.block ?_
     | refine AWp.skip ?_
     | refine inBlk_n ?_
     | refine AWp.condT rfl cnT ?_
     | refine AWp.condF rfl cnF ?_
     | (refine rG 9 ?_
        refine qr5t aK ?_
        refine aB ?_)
     | (refine rG 10 ?_
        refine kA ?_
        refine qr8eo2 (aP (k := k) tyOk) ?_
        refine qr5o (aV tyOk) ?_
        (iterate 2 refine kC ?_)
        refine aB ?_)
     | (refine rG 11 ?_
        refine kA ?_
        refine kF ?_
        (iterate 2 refine kA ?_)
        refine qr8 (aX tyOk) ?_
        refine AList.callG [1000, 1001] [] [srB p 1001 st, knB p] [srB p 1001 st, knB p] [] [srB p 1001 st, knB p] [] rfl rfl FnV.func rfl Try.func63 rfl (by kernel_rfl) (lendS rfl rfl rfl rfl trivial) rfl (backP (bC false) rfl) (backS rfl trivial) (trivial) (hct) ?_
        refine aB ?_)
     | (refine rG 13 ?_
        refine qr4w2 aL ?_
        refine kA ?_
        refine aB ?_))
    refine ⟨k + 1, ⟨hkl, fun j hj => ?_⟩, Wk.mkL [(7, some 7)] rfl rfl rfl rfl rfl ?_ ?_, by omega⟩
    ·by_cases e : j = k
     ·rw [e]; exact hv
     ·exact hno2 j (by omega)
    ·repeat (first | exact trivial | refine ⟨⟨_, rfl, by first | exact LeA.c (LeC.ptB _ _ _ _ rfl) | exact LeA.c (LeC.owB _ rfl) | exact leT⟩, ?_⟩)
    ·exact ⟨hSm,
     HeapOk.lentC rfl rfl ⟨LeC.refl _ rfl, LeC.refl _ rfl, LeC.refl _ rfl, LeC.refl _ rfl, LeC.refl _ rfl, LeC.owB 1001 rfl, LeC.int rfl, trivial⟩ rfl, HeapOk.lentMo rfl rfl (fun _ _ h => h)
     ,  trivial⟩
 have hkl' : ¬ (k : Int) < n := by omega
 obtain rfl : n = k := by omega
 rw [freeV_iff.2 ⟨hno, hno2⟩]
 repeat (first
  | refine AWp.seq ?_
  | refine thenA_n ?_
  | refine AWp.exit ?_
  | refine AWp.ret ?_
  | refine AWp.condF rfl cnF ?_
  | (refine rG 9 ?_
     refine qr5f aJ ?_
     refine aB ?_)
  | (refine rG 14 ?_
     refine kC ?_
     refine aB ?_))
 refine ⟨mkL 44 2 [(6, .c (bC true))] [(1000, srB p 1001 st), (1001, knB p) ] [], [], _, [srB p 1001 st, knB p ], [], ⟨rfl, rfl, rfl⟩, rfl, Wk.mkL [] rfl rfl rfl rfl rfl ?_ ?_, rfl, rfl, GRets.one (x := .c _) (GRes.tmp rfl)⟩
 ·exact allT
 ·exact ⟨
  HeapOk.lentC rfl rfl ⟨LeC.refl _ rfl, LeC.refl _ rfl, LeC.refl _ rfl, LeC.refl _ rfl, LeC.refl _ rfl, LeC.owB 1001 rfl, LeC.int rfl, trivial⟩ rfl, HeapOk.lentMo rfl rfl (fun _ _ h => h)
  ,  trivial⟩
set_option maxHeartbeats 2000000 in
set_option maxRecDepth 100000 in
theorem sfree_R (p : Pb) (hp : p.ok) (hT : p.T.length = p.F.length) (st : Int) (n : Nat) (ch : Nat → Int) (c : Int) (hn : n ≤ 1000000) (h1 : PkOk p n c) (h2 : ∀ k, k < n → PkOk p k (ch k)) : GCalls Try.prog 45 [.c (.pt 1000 7 0 0), .c (.ow 1002), .c (iC c)] [srB p 1001 st, knB p, rowI n ch] (.c (bC (freeV p n ch c))) [srB p 1001 st, knB p, rowI n ch] [] := by
 have hp' := hp
 obtain ⟨hrd, lR, lC, lF', lO, lT, lc⟩ := hp
 have hsc := fun k h2 (hne : ((n : Nat) : Int) ≠ -1) => sclash_A p hp' st n c (-1) ((k : Nat) : Int) h1 h2 hne
 have hsd := fun k h2 (hne : ((n : Nat) : Int) ≠ ((k : Nat) : Int)) => sclash_A p hp' st n c k (ch k) h1 h2 hne
 refine ge_at Try.func45 rfl rfl Try.ntmps45 rfl ?_
 repeat (first
  | refine AWp.seq ?_
  | refine thenA_n ?_
  | refine AWp.block ?_
  | (refine rG 0 ?_
     refine kC ?_
     refine aB ?_)
  | (refine rG 1 ?_
     refine kA ?_
     refine qr7 (AList.lenOw tyOk) ?_
     refine kA ?_
     refine qr8 (aX tyOk) ?_
     refine qr5 (aM tyOk) ?_
     refine kI ?_
     refine aB ?_)
  | (refine rG 2 ?_
     refine kA ?_
     refine AList.nilPt rfl rfl rfl rfl ?_
     (iterate 2 refine kD ?_)
     refine kE ?_
     refine qr5 (aO tyOk) ?_
     refine kA ?_
     refine aB ?_))
 refine AWp.round (fun k : Nat =>
  mkL 44 3 [(0, .c (.pt 1000 7 0 0)), (1, .c (.ow 1002)), (7, .c (.pt 7 2 0 0)), (20, .c (iC p.F.length)), (21, .c (iC (k : Nat)))] [(7, ⟨false, 1, 2, 122, lF [iC n, iC c]⟩), (1000, srB p 1001 st), (1001, knB p) , (1002, rowI n ch)] [7]
  ) (fun k => k ≤ p.F.length ∧ ∀ j, j < k → pkV p n c (-1) j = false) (fun k => p.F.length - k) 0 ⟨Nat.zero_le _, fun _ h => absurd h (Nat.not_lt_zero _)⟩ ?_ (fun k hk => ?_)
 ·refine Wk.mkL [(7, some 7)] rfl rfl rfl rfl rfl ?_ ?_
  ·repeat (first | exact trivial | refine ⟨⟨_, rfl, by first | exact LeA.c (LeC.ptB _ _ _ _ rfl) | exact LeA.c (LeC.owB _ rfl) | exact leT⟩, ?_⟩)
  ·exact ⟨hSm,
   HeapOk.lentC rfl rfl ⟨LeC.refl _ rfl, LeC.refl _ rfl, LeC.refl _ rfl, LeC.refl _ rfl, LeC.refl _ rfl, LeC.owB 1001 rfl, LeC.int rfl, trivial⟩ rfl, HeapOk.lentMo rfl rfl (fun _ _ h => h)
   , HeapOk.lentRow rfl rfl (fun i _ => cell1 ⟨rfl, rfl⟩), trivial⟩
 obtain ⟨hk, hno⟩ := hk
 by_cases hkl : k < p.F.length
 ·have hkl' : (k : Int) < p.F.length := by omega
  have hct := hsc k (.inl ⟨rfl, k, rfl, hkl, by omega⟩) (by omega)
  have hfr := @freeV_no p n ch c
  obtain ⟨v, hv⟩ : ∃ v, pkV p n c (-1) k = v := ⟨_, rfl⟩
  rw [hv] at hct
  cases v with
  | true =>
    rw [hfr fun h => by rw [h.1 k hkl] at hv; cases hv]
    repeat (first
     | refine AWp.seq ?_
     | refine thenA_n ?_
     | refine AWp.block ?_
     | refine AWp.skip ?_
     | refine AWp.ret ?_
     | refine thenA_r ?_
     | refine inBlk_r ?_
     | refine AWp.condT rfl cnT ?_
     | (refine rG 3 ?_
        refine qr5t aK ?_
        refine aB ?_)
     | (refine rG 4 ?_
        refine kA ?_
        refine kC ?_
        refine aB ?_)
     | (refine rG 5 ?_
        refine kA ?_
        refine kF ?_
        refine kA ?_
        refine qr8 (aX tyOk) ?_
        refine AList.callG [1000, 1001] [] [srB p 1001 st, knB p] [srB p 1001 st, knB p] [] [srB p 1001 st, knB p] [] rfl rfl FnV.func rfl Try.func63 rfl (by kernel_rfl) (lendS rfl rfl rfl rfl trivial) rfl (backP (bC true) rfl) (backS rfl trivial) (trivial) (hct) ?_
        refine aB ?_)
     | (refine rG 6 ?_
        refine kC ?_
        refine aB ?_))
    refine ⟨mkL 44 3 [(6, .c (bC false))] [(1000, srB p 1001 st), (1001, knB p) , (1002, rowI n ch)] [], [], _, [srB p 1001 st, knB p , rowI n ch], [], ⟨rfl, rfl, rfl⟩, rfl, Wk.mkL [] rfl rfl rfl rfl rfl ?_ ?_, rfl, rfl, GRets.one (x := .c _) (GRes.tmp rfl)⟩
    ·exact allT
    ·exact ⟨
     HeapOk.lentC rfl rfl ⟨LeC.refl _ rfl, LeC.refl _ rfl, LeC.refl _ rfl, LeC.refl _ rfl, LeC.refl _ rfl, LeC.owB 1001 rfl, LeC.int rfl, trivial⟩ rfl, HeapOk.lentMo rfl rfl (fun _ _ h => h)
     , HeapOk.lentRow rfl rfl (fun i _ => cell1 ⟨rfl, rfl⟩), trivial⟩
  | false =>
    repeat (first
     | refine AWp.seq ?_
     | refine thenA_n ?_
     | refine AWp.block ?_
     | refine AWp.skip ?_
     | refine inBlk_n ?_
     | refine AWp.condT rfl cnT ?_
     | refine AWp.condF rfl cnF ?_
     | (refine rG 3 ?_
        refine qr5t aK ?_
        refine aB ?_)
     | (refine rG 4 ?_
        refine kA ?_
        refine kC ?_
        refine aB ?_)
     | (refine rG 5 ?_
        refine kA ?_
        refine kF ?_
        refine kA ?_
        refine qr8 (aX tyOk) ?_
        refine AList.callG [1000, 1001] [] [srB p 1001 st, knB p] [srB p 1001 st, knB p] [] [srB p 1001 st, knB p] [] rfl rfl FnV.func rfl Try.func63 rfl (by kernel_rfl) (lendS rfl rfl rfl rfl trivial) rfl (backP (bC false) rfl) (backS rfl trivial) (trivial) (hct) ?_
        refine aB ?_)
     | (refine rG 7 ?_
        refine qr4w2 aL ?_
        refine kA ?_
        refine aB ?_))
    refine ⟨k + 1, ⟨hkl, fun j hj => ?_⟩, Wk.mkL [(7, some 7)] rfl rfl rfl rfl rfl ?_ ?_, by omega⟩
    ·by_cases e : j = k
     ·rw [e]; exact hv
     ·exact hno j (by omega)
    ·repeat (first | exact trivial | refine ⟨⟨_, rfl, by first | exact LeA.c (LeC.ptB _ _ _ _ rfl) | exact LeA.c (LeC.owB _ rfl) | exact leT⟩, ?_⟩)
    ·exact ⟨hSm,
     HeapOk.lentC rfl rfl ⟨LeC.refl _ rfl, LeC.refl _ rfl, LeC.refl _ rfl, LeC.refl _ rfl, LeC.refl _ rfl, LeC.owB 1001 rfl, LeC.int rfl, trivial⟩ rfl, HeapOk.lentMo rfl rfl (fun _ _ h => h)
     , HeapOk.lentRow rfl rfl (fun i _ => cell1 ⟨rfl, rfl⟩), trivial⟩
 have hkl' : ¬ (k : Int) < p.F.length := by omega
 obtain rfl : k = p.F.length := by omega
 clear hk hkl
 repeat (first
  | refine AWp.seq ?_
  | refine thenA_n ?_
  | refine AWp.block ?_
  | refine AWp.exit ?_
  | refine AWp.condF rfl cnF ?_
  | (refine rG 3 ?_
     refine qr5f aJ ?_
     refine aB ?_)
  | (refine rG 8 ?_
     refine kA ?_
     refine qr7 (AList.lenOw tyOk) ?_
     refine kA ?_
     refine aB ?_))
 refine AWp.round (fun k : Nat =>
  mkL 44 3 [(0, .c (.pt 1000 7 0 0)), (1, .c (.ow 1002)), (7, .c (.pt 7 2 0 0)), (30, .c (.ow 1002)), (31, .c (iC n)), (32, .c (iC (k : Nat)))] [(7, ⟨false, 1, 2, 122, lF [iC n, iC c]⟩), (1000, srB p 1001 st), (1001, knB p) , (1002, rowI n ch)] [7]
  ) (fun k => k ≤ n ∧ ∀ j, j < k → pkV p n c j (ch j) = false) (fun k => n - k) 0 ⟨Nat.zero_le _, fun _ h => absurd h (Nat.not_lt_zero _)⟩ ?_ (fun k hk => ?_)
 ·refine Wk.mkL [(7, some 7)] rfl rfl rfl rfl rfl ?_ ?_
  ·repeat (first | exact trivial | refine ⟨⟨_, rfl, by first | exact LeA.c (LeC.ptB _ _ _ _ rfl) | exact LeA.c (LeC.owB _ rfl) | exact leT⟩, ?_⟩)
  ·exact ⟨hSm,
   HeapOk.lentC rfl rfl ⟨LeC.refl _ rfl, LeC.refl _ rfl, LeC.refl _ rfl, LeC.refl _ rfl, LeC.refl _ rfl, LeC.owB 1001 rfl, LeC.int rfl, trivial⟩ rfl, HeapOk.lentMo rfl rfl (fun _ _ h => h)
   , HeapOk.lentRow rfl rfl (fun i _ => cell1 ⟨rfl, rfl⟩), trivial⟩
 obtain ⟨hk, hno2⟩ := hk
 by_cases hkl : k < n
 ·have hkl' : (k : Int) < n := by omega
  have hct := hsd k (h2 k hkl) (by omega)
  have hfr := @freeV_no p n ch c
  obtain ⟨v, hv⟩ : ∃ v, pkV p n c k (ch k) = v := ⟨_, rfl⟩
  rw [hv] at hct
  cases v with
  | true =>
    rw [hfr fun h => by rw [h.2 k hkl] at hv; cases hv]
    repeat (first
     | refine AWp.seq ?_
     | refine thenA_n ?_
     | refine AWp.block ?_
     | refine AWp.skip ?_
     | refine AWp.ret ?_
     | refine thenA_r ?_
     | refine inBlk_r ?_
     | refine AWp.condT rfl cnT ?_
     | (refine rG 9 ?_
        refine qr5t aK ?_
        refine aB ?_)
     | (refine rG 10 ?_
        refine kA ?_
        refine qr10eo (AList.idxOw (k := k) tyOk) ?_
        refine kE ?_
        (iterate 2 refine kC ?_)
        refine aB ?_)
     | (refine rG 11 ?_
        refine kA ?_
        refine kF ?_
        (iterate 2 refine kA ?_)
        refine qr8 (aX tyOk) ?_
        refine AList.callG [1000, 1001] [] [srB p 1001 st, knB p] [srB p 1001 st, knB p] [] [srB p 1001 st, knB p] [] rfl rfl FnV.func rfl Try.func63 rfl (by kernel_rfl) (lendS rfl rfl rfl rfl trivial) rfl (backP (bC true) rfl) (backS rfl trivial) (trivial) (hct) ?_
        refine aB ?_)
     | (refine rG 12 ?_
        refine kC ?_
        refine aB ?_))
    refine ⟨mkL 44 3 [(6, .c (bC false))] [(1000, srB p 1001 st), (1001, knB p) , (1002, rowI n ch)] [], [], _, [srB p 1001 st, knB p , rowI n ch], [], ⟨rfl, rfl, rfl⟩, rfl, Wk.mkL [] rfl rfl rfl rfl rfl ?_ ?_, rfl, rfl, GRets.one (x := .c _) (GRes.tmp rfl)⟩
    ·exact allT
    ·exact ⟨
     HeapOk.lentC rfl rfl ⟨LeC.refl _ rfl, LeC.refl _ rfl, LeC.refl _ rfl, LeC.refl _ rfl, LeC.refl _ rfl, LeC.owB 1001 rfl, LeC.int rfl, trivial⟩ rfl, HeapOk.lentMo rfl rfl (fun _ _ h => h)
     , HeapOk.lentRow rfl rfl (fun i _ => cell1 ⟨rfl, rfl⟩), trivial⟩
  | false =>
    repeat (first
     | refine AWp.seq ?_
     | refine thenA_n ?_
     | refine AWp.block ?_
     | refine AWp.skip ?_
     | refine inBlk_n ?_
     | refine AWp.condT rfl cnT ?_
     | refine AWp.condF rfl cnF ?_
     | (refine rG 9 ?_
        refine qr5t aK ?_
        refine aB ?_)
     | (refine rG 10 ?_
        refine kA ?_
        refine qr10eo (AList.idxOw (k := k) tyOk) ?_
        refine kE ?_
        (iterate 2 refine kC ?_)
        refine aB ?_)
     | (refine rG 11 ?_
        refine kA ?_
        refine kF ?_
        (iterate 2 refine kA ?_)
        refine qr8 (aX tyOk) ?_
        refine AList.callG [1000, 1001] [] [srB p 1001 st, knB p] [srB p 1001 st, knB p] [] [srB p 1001 st, knB p] [] rfl rfl FnV.func rfl Try.func63 rfl (by kernel_rfl) (lendS rfl rfl rfl rfl trivial) rfl (backP (bC false) rfl) (backS rfl trivial) (trivial) (hct) ?_
        refine aB ?_)
     | (refine rG 13 ?_
        refine qr4w2 aL ?_
        refine kA ?_
        refine aB ?_))
    refine ⟨k + 1, ⟨hkl, fun j hj => ?_⟩, Wk.mkL [(7, some 7)] rfl rfl rfl rfl rfl ?_ ?_, by omega⟩
    ·by_cases e : j = k
     ·rw [e]; exact hv
     ·exact hno2 j (by omega)
    ·repeat (first | exact trivial | refine ⟨⟨_, rfl, by first | exact LeA.c (LeC.ptB _ _ _ _ rfl) | exact LeA.c (LeC.owB _ rfl) | exact leT⟩, ?_⟩)
    ·exact ⟨hSm,
     HeapOk.lentC rfl rfl ⟨LeC.refl _ rfl, LeC.refl _ rfl, LeC.refl _ rfl, LeC.refl _ rfl, LeC.refl _ rfl, LeC.owB 1001 rfl, LeC.int rfl, trivial⟩ rfl, HeapOk.lentMo rfl rfl (fun _ _ h => h)
     , HeapOk.lentRow rfl rfl (fun i _ => cell1 ⟨rfl, rfl⟩), trivial⟩
 have hkl' : ¬ (k : Int) < n := by omega
 obtain rfl : n = k := by omega
 rw [freeV_iff.2 ⟨hno, hno2⟩]
 repeat (first
  | refine AWp.seq ?_
  | refine thenA_n ?_
  | refine AWp.exit ?_
  | refine AWp.ret ?_
  | refine AWp.condF rfl cnF ?_
  | (refine rG 9 ?_
     refine qr5f aJ ?_
     refine aB ?_)
  | (refine rG 14 ?_
     refine kC ?_
     refine aB ?_))
 refine ⟨mkL 44 3 [(6, .c (bC true))] [(1000, srB p 1001 st), (1001, knB p) , (1002, rowI n ch)] [], [], _, [srB p 1001 st, knB p , rowI n ch], [], ⟨rfl, rfl, rfl⟩, rfl, Wk.mkL [] rfl rfl rfl rfl rfl ?_ ?_, rfl, rfl, GRets.one (x := .c _) (GRes.tmp rfl)⟩
 ·exact allT
 ·exact ⟨
  HeapOk.lentC rfl rfl ⟨LeC.refl _ rfl, LeC.refl _ rfl, LeC.refl _ rfl, LeC.refl _ rfl, LeC.refl _ rfl, LeC.owB 1001 rfl, LeC.int rfl, trivial⟩ rfl, HeapOk.lentMo rfl rfl (fun _ _ h => h)
  , HeapOk.lentRow rfl rfl (fun i _ => cell1 ⟨rfl, rfl⟩), trivial⟩
end Go.Proofs.Ytjjaehpkccejaaa
end

section
namespace Go.AV
open Go Go.RowKit Go.Flow
theorem GE.cv {P : Program} {f : FuncId} {args args' : List V1} {hs : List AB} {R : AV → List AB → List AB → Prop} (h : GE P f args hs R) (hc : LeL CvV args' args) : GE P f args' hs R := fun b0 vals h1 h2 h3 h4 => h b0 vals h1 h2 h3 (CvL.rep hc h4)
end Go.AV
namespace Go.Proofs.Ytjjaehpkccejaaa
open Go.RowKit Go.Flow Go.AV Go.Plain
abbrev FR := List Int × Int × Int
abbrev fI (ch : List Int) (k : Nat) : Int := ch.getD k 0
abbrev lsI (ch : List Int) : CV := .ls ch.length 1 (iF (fI ch))
def tryV (rec : List Int → Int → FR) (p : Pb) (ch : List Int) : Nat → Nat → Int → FR
 | 0, _, st => ([], 60, st)
 | r + 1, c, st => if 20000 < st + 1 then ([], 61, st + 1) else if freeV p ch.length (fI ch) c = true then (if (rec (ch ++ [(c : Int)]) (st + 1)).2.1 = 60 then tryV rec p ch r (c + 1) (rec (ch ++ [(c : Int)]) (st + 1)).2.2 else rec (ch ++ [(c : Int)]) (st + 1)) else tryV rec p ch r (c + 1) (st + 1)
def fromV (p : Pb) : Nat → List Int → Int → FR
 | 0, ch, st => (ch, 0, st)
 | m + 1, ch, st => tryV (fromV p m) p ch (p.C.getD ch.length []).length 0 st
section
variable {rec : List Int → Int → FR} {p : Pb} {ch : List Int} {r c : Nat} {st : Int}
theorem tryV_over (h : 20000 < st + 1) : tryV rec p ch (r + 1) c st = ([], 61, st + 1) := if_pos h
theorem tryV_skip (h : ¬ 20000 < st + 1) (hf : freeV p ch.length (fI ch) c = false) : tryV rec p ch (r + 1) c st = tryV rec p ch r (c + 1) (st + 1) := by
 show (if _ then _ else _) = _
 rw [if_neg h, if_neg (by rw [hf]; simp)]
theorem tryV_go (h : ¬ 20000 < st + 1) (hf : freeV p ch.length (fI ch) c = true) (he : (rec (ch ++ [(c : Int)]) (st + 1)).2.1 = 60) : tryV rec p ch (r + 1) c st = tryV rec p ch r (c + 1) (rec (ch ++ [(c : Int)]) (st + 1)).2.2 := by
 show (if _ then _ else _) = _
 rw [if_neg h, if_pos hf, if_pos he]
theorem tryV_out (h : ¬ 20000 < st + 1) (hf : freeV p ch.length (fI ch) c = true) (he : (rec (ch ++ [(c : Int)]) (st + 1)).2.1 ≠ 60) : tryV rec p ch (r + 1) c st = rec (ch ++ [(c : Int)]) (st + 1) := by
 show (if _ then _ else _) = _
 rw [if_neg h, if_pos hf, if_neg he]
end
def StOk (o : FR) : Prop := 0 ≤ o.2.2 ∧ (o.2.1 = 60 → o.2.2 ≤ 20000)
theorem tryV_st {rec : List Int → Int → FR} {p : Pb} {ch : List Int} (hr : ∀ ch st, 0 ≤ st ∧ st ≤ 20000 → StOk (rec ch st)) : ∀ (r c : Nat) (st : Int), 0 ≤ st ∧ st ≤ 20000 → StOk (tryV rec p ch r c st)
 | 0, _, st, h => ⟨h.1, fun _ => h.2⟩
 | r + 1, c, st, h => by
   by_cases h1 : 20000 < st + 1
   ·rw [tryV_over h1]; exact ⟨by show 0 ≤ st + 1; omega, fun e => by cases e⟩
   ·cases hf : freeV p ch.length (fI ch) c with
    | false => rw [tryV_skip h1 hf]; exact tryV_st hr r _ _ ⟨by omega, by omega⟩
    | true =>
      have h2 := hr (ch ++ [(c : Int)]) (st + 1) ⟨by omega, by omega⟩
      by_cases he : (rec (ch ++ [(c : Int)]) (st + 1)).2.1 = 60
      ·rw [tryV_go h1 hf he]; exact tryV_st hr r _ _ ⟨h2.1, h2.2 he⟩
      ·rw [tryV_out h1 hf he]; exact h2
theorem fromV_st {p : Pb} : ∀ (m : Nat) (ch : List Int) (st : Int), 0 ≤ st ∧ st ≤ 20000 → StOk (fromV p m ch st)
 | 0, _, st, h => ⟨h.1, fun e => by cases e⟩
 | m + 1, ch, st, h => tryV_st (fromV_st m) _ _ _ h
theorem fI_snoc (ch : List Int) (c : Int) : ∀ k, k < ch.length → fI (ch ++ [c]) k = fI ch k := fun k hk => by
 show (ch ++ [c]).getD k 0 = ch.getD k 0
 rw [List.getD_eq_getElem?_getD, List.getElem?_append_left hk, ← List.getD_eq_getElem?_getD]
theorem fI_last (ch : List Int) (c : Int) : fI (ch ++ [c]) ch.length = c := by
 show (ch ++ [c]).getD ch.length 0 = c
 simp
theorem chI_snoc (ch : List Int) (c : Int) : ∀ i, i < ch.length + 1 → ∀ j, j < 1 → appF (iF (fI ch)) ch.length (sF [iC c] 1) i j = iF (fI (ch ++ [c])) i j ∧ immC (appF (iF (fI ch)) ch.length (sF [iC c] 1) i j) = true :=
 app_F (G := iF (fI (ch ++ [c]))) (fun i hi j _ => by show CV.p _ = CV.p _; rw [fI_snoc ch c i hi]) (cell1 (by show iC c = CV.p _; rw [fI_last])) (fun _ _ _ _ => rfl)
/-- The lists so far have choices. -/
def ChOk (p : Pb) (ch : List Int) : Prop := ∀ k, k < ch.length → PkOk p k (fI ch k)
theorem ChOk.snoc {p : Pb} {ch : List Int} {c : Int} (h : ChOk p ch) (hc : PkOk p ch.length c) : ChOk p (ch ++ [c]) := fun k hk => by
 rw [List.length_append] at hk
 have hk : k < ch.length + 1 := hk
 by_cases e : k = ch.length
 ·rw [e, fI_last]; exact hc
 ·rw [fI_snoc ch c k (by omega)]; exact h k (by omega)
structure Pb.fit (p : Pb) : Prop where
 ok : p.ok
 t : p.T.length = p.F.length
 o : p.O.length = p.C.length
 c : p.C.length ≤ 200
 f : p.F.length ≤ 200
 l : ∀ l ∈ p.C, l.length ≤ 32
theorem Pb.fit.pk {p : Pb} (h : p.fit) {n : Nat} (hn : n < p.C.length) {c : Nat} (hc : c < (p.C.getD n []).length) : PkOk p n c := .inr ⟨n, c, rfl, rfl, hn, by rw [h.o]; exact hn, hc⟩
end Go.Proofs.Ytjjaehpkccejaaa
end
