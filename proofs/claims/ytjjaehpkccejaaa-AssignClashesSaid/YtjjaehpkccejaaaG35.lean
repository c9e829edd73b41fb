/- Parts of the proof: AConv, A28za, A28zb, A28zd. -/
import Derived.Test.YtjjaehpkccejaaaG15
import Derived.Test.YtjjaehpkccejaaaG25
import Derived.Test.YtjjaehpkccejaaaG34
set_option linter.unusedSimpArgs false
set_option linter.unusedVariables false
section
namespace Go.AV
open Go Go.RowKit Go.Flow
section
variable {P : Program}
theorem Cv.lsN {n sz : Nat} {F G : Nat → Nat → CV} (h : ∀ k, k < n → ∀ j, j < sz → ∀ (O : Nat → Prop) (w : World) (u : Value), RepI O w (F k j) u → RepI O w (G k j) u) : Cv (.ls n sz F) (.ls n sz G) := fun σ O w u hu => by
 obtain ⟨h1, A, cap, e, hcap, h2⟩ := hu
 exact ⟨h1, A, cap, e, hcap, fun k hk j hj => let ⟨ad, v, a1, a2, a3, a4, a5⟩ := h2 k hk j hj; ⟨ad, v, a1, a2, a3, a4, h k hk j hj O w v a5⟩⟩
theorem AWp.cvBox {c : Code} {Q : Exit → St → Prop} {S : St} {id n sz : Nat} {row : Bool} {ty : TypeId} {F : Nat → Nat → CV} (G : Nat → Nat → CV) (hh : S.h id = some ⟨row, n, sz, ty, F⟩) (hz : Nat.beq sz 1 = false) (hc : ∀ k, k < n → ∀ j, j < sz → Cv (F k j) (G k j))
 (h : AWp P c Q (S.eff none ⟨.c .any, [(id, some ⟨row, n, sz, ty, G⟩)], []⟩)) : AWp P c Q S := ⟨fun b0 a w ⟨σ, R⟩ => by
 refine h.get b0 a w ⟨σ, ?_⟩
 have hput : ∀ i, i ≠ id → (S.eff none ⟨.c .any, [(id, some ⟨row, n, sz, ty, G⟩)], []⟩).h i = S.h i := fun i hi => put_ne _ _ hi
 have hsame : (S.eff none ⟨.c .any, [(id, some ⟨row, n, sz, ty, G⟩)], []⟩).h id = some ⟨row, n, sz, ty, G⟩ := put_same _ _ _
 have hne : ∀ i, (S.eff none ⟨.c .any, [(id, some ⟨row, n, sz, ty, G⟩)], []⟩).h i ≠ none ↔ S.h i ≠ none := fun i => by
  by_cases hi : i = id
  ·subst hi; rw [hsame, hh]; simp
  ·rw [hput i hi]
 have hown : ∀ b, own σ (S.eff none ⟨.c .any, [(id, some ⟨row, n, sz, ty, G⟩)], []⟩).h b ↔ own σ S.h b := fun b => ⟨fun ⟨i, v, h1, h2, h3⟩ => ⟨i, v, (hne i).1 h1, h2, h3⟩, fun ⟨i, v, h1, h2, h3⟩ => ⟨i, v, (hne i).2 h1, h2, h3⟩⟩
 have hout : ∀ b, out b0 σ (S.eff none ⟨.c .any, [(id, some ⟨row, n, sz, ty, G⟩)], []⟩).h b → out b0 σ S.h b := fun b hb => hb.imp (hown b).1 fun h => h
 refine ⟨R.df, R.sz, R.ext, ⟨fun i B hB => ?_, fun i j v1 v2 b hi hj => R.hp.inj i j v1 v2 b ((hne i).1 hi) ((hne j).1 hj), fun b hb => R.hp.new b ((hown b).1 hb), fun i v hi => ⟨(R.hp.fx i v hi).1, (hne i).2 (R.hp.fx i v hi).2⟩, R.hp.big⟩, fun t x hx => (R.sl t x hx).less hout, fun i hi => R.fr i (by simpa [St.eff] using hi), R.le, R.gd, R.gh⟩
 by_cases hi : i = id
 ·subst hi
  rw [hsame] at hB
  cases hB
  obtain ⟨v, e1, e2⟩ := R.hp.blk i _ hh
  refine ⟨v, e1, ?_⟩
  have e3 := e2.less hout
  rcases e3 with h0 | ⟨b, cap, cs, k1, k2, k3, k4⟩ | ⟨_, _, h0, _⟩
  ·exact .inl h0
  ·refine .inr (.inl ⟨b, cap, cs, ?_, k2, k3, fun k hk j hj => let ⟨u, g1, g2⟩ := k4 k hk j hj; ⟨u, g1, hc k hk j hj _ _ _ _ g2⟩⟩)
   exact k1
  ·have h0 : sz = 1 := h0
   rw [h0] at hz
   cases hz
 ·rw [hput i hi] at hB
  obtain ⟨v, k1, k2⟩ := R.hp.blk i B hB
  exact ⟨v, k1, k2.less hout⟩⟩
end
end Go.AV
end

section
namespace Go.Proofs.Ytjjaehpkccejaaa
open Go.RowKit Go.Flow Go.AV Go.Plain
abbrev bsA : ByteArray := ⟨#[35, 46, 46, 46]⟩
abbrev bsB : ByteArray := ⟨#[46, 35, 46, 46]⟩
abbrev bsC : ByteArray := ⟨#[46, 46, 35, 46]⟩
theorem ascii4 {a : Array UInt8} (h : (decide (a.size ≤ 96) && a.toList.all (fun x => decide (x.toNat < 128))) = true) : Ascii ⟨a⟩ := by
 rw [Bool.and_eq_true, List.all_eq_true] at h
 refine ⟨of_decide_eq_true h.1, fun k hk => ?_⟩
 have hk' : k < a.size := hk
 show (a[k]!).toNat < 128
 rw [getElem!_pos a k hk']
 exact of_decide_eq_true (h.2 _ (Array.getElem_mem_toList _))
theorem bsA_ok : Ascii bsA := ascii4 (by decide)
theorem bsB_ok : Ascii bsB := ascii4 (by decide)
theorem bsC_ok : Ascii bsC := ascii4 (by decide)
abbrev bg0 : Bg := ⟨0, 0, 0, 0⟩
abbrev exCh : List (List Bp) := [[rwB bsA, rwB bsB], [rwB bsA, rwB bsC]]
abbrev lsS (fx : List ByteArray) : CV := .ls fx.length 1 (fun k _ => .p (.string (fx.getD k ByteArray.empty)))
def exPb (fx : List ByteArray) : Pb := ⟨[], exCh, fx.map rwB, [bg0, bg0], List.replicate fx.length bg0⟩
theorem bg0_rep (n : Nat) : ∀ k, k < n → ∀ j, j < 4 → rowF bgC bgZ (List.replicate n bg0) k j = iC 0 := fun k hk j hj => by
 have e : (List.replicate n bg0).getD k bgZ = bg0 := by simp [List.getD_eq_getElem?_getD, hk]
 unfold rowF
 rw [e]
 have : j = 0 ∨ j = 1 ∨ j = 2 ∨ j = 3 := by omega
 rcases this with rfl | rfl | rfl | rfl <;> rfl
theorem zF_bg (k j : Nat) (hj : j < 4) : zF [Value.int .i64 0, .int .i64 0, .int .i64 0, .int .i64 0] k j = iC 0 := by
 have : j = 0 ∨ j = 1 ∨ j = 2 ∨ j = 3 := by omega
 rcases this with rfl | rfl | rfl | rfl <;> rfl
theorem bp_pair (a b : Bp) : ∀ k, k < 2 → ∀ j, j < 3 → sF (bpC a ++ bpC b) 3 k j = rowF bpC bpZ [a, b] k j := fun k hk j hj => by
 have h1 : k = 0 ∨ k = 1 := by omega
 have h2 : j = 0 ∨ j = 1 ∨ j = 2 := by omega
 rcases h1 with rfl | rfl <;> rcases h2 with rfl | rfl | rfl <;> rfl
abbrev exLit : CV := .ls 2 1 (sF [.ls 2 3 (sF (bpC (rwB bsA) ++ bpC (rwB bsB)) 3), .ls 2 3 (sF (bpC (rwB bsA) ++ bpC (rwB bsC)) 3)] 1)
theorem exL_cv : Cv exLit (lsC exCh) := Cv.lsN fun k hk j hj O w u hu => by
 obtain rfl : j = 0 := Nat.lt_one_iff.mp hj
 have h1 : k = 0 ∨ k = 1 := by omega
 rcases h1 with rfl | rfl
 ·exact RepI.ls_congr (bp_pair _ _) hu
 ·exact RepI.ls_congr (bp_pair _ _) hu
set_option maxHeartbeats 2000000 in
set_option maxRecDepth 100000 in
theorem example_A (fx : List ByteArray) (hn : fx.length ≤ 10) (hfx : ∀ s ∈ fx, Ascii s) : ACalls Try.prog 28 [.c (lsS fx)] (.ag (pbC (exPb fx))) := by
 refine acalls_at Try.func28 rfl rfl Try.ntmps28 rfl ?_
 have hr := fun k (hk : k < fx.length) => row28_A (fx.getD k ByteArray.empty) (hfx _ (getD_mem28 hk))
 have r1 := row28_A bsA bsA_ok
 have r2 := row28_A bsB bsB_ok
 have r3 := row28_A bsC bsC_ok
 have hrep : (List.replicate fx.length bg0).length = fx.length := List.length_replicate
 repeat (first
  | refine AWp.seq ?_
  | (refine rG 0 ?_
     refine qr5 (aM tyOk) ?_
     refine aB ?_))
 refine AWp.draw mixed ?_
 refine aH rfl rfl rfl rfl Try.func31 rfl (by kernel_rfl) (r1) ?_
 refine aH rfl rfl rfl rfl Try.func31 rfl (by kernel_rfl) (r2) ?_
 refine qr11 (AList.litSl tyOk) ?_
 refine aH rfl rfl rfl rfl Try.func31 rfl (by kernel_rfl) (r1) ?_
 refine aH rfl rfl rfl rfl Try.func31 rfl (by kernel_rfl) (r3) ?_
 (iterate 2 refine qr11 (AList.litSl tyOk) ?_)
 refine qr9e2o2 (AList.makeSl (n := 2) tyOk) ?_
 refine kA ?_
 refine qr5 (aO tyOk) ?_
 refine qr9e2o2 (AList.makeSl (n := fx.length) tyOk) ?_
 refine qr8 (aX tyOk) ?_
 refine qr5 (aM tyOk) ?_
 refine kI ?_
 refine aB ⟨by kernel_rfl, ?_⟩
 refine AWp.weak (S' := mkSt 34 [(0, .c (lsS fx)), (2, .c (.pt 2 5 0 0)), (3, .c (.pt 3 5 0 0))] [(2, ⟨false, 1, 5, 32, lF [nl8, nl8, nl8, nl8, nl8]⟩), (3, ⟨false, 1, 5, 32, lF [nl8, exLit, nl8, .ow 12, .ow 15]⟩), (12, bgB [bg0, bg0]), (15, bgB (List.replicate fx.length bg0))] [2, 3, 12, 15]) (Wk.mk [(2, some 2), (3, some 3), (12, some 12), (15, some 15)] rfl rfl rfl ?_ ?_) ?_
 ·exact allT
 ·exact ⟨hSm, HeapOk.box rfl rfl ⟨LeC.refl _ rfl, LeC.refl _ rfl, LeC.refl _ rfl, LeC.ow _ _ rfl, LeC.ow _ _ rfl, trivial⟩ rfl, HeapOk.row rfl rfl rfl (fun k hk j hj => ⟨(zF_bg k j hj).trans (bg0_rep 2 k hk j hj).symm, by show immC (zF _ k j) = true; exact congrArg immC (zF_bg k j hj)⟩), HeapOk.row rfl rfl hrep (fun k hk j hj => ⟨(zF_bg k j hj).trans (bg0_rep _ k hk j hj).symm, by show immC (zF _ k j) = true; exact congrArg immC (zF_bg k j hj)⟩), trivial⟩
 refine AWp.cvBox (id := 3) (F := lF [nl8, exLit, nl8, .ow 12, .ow 15]) (lF [nl8, lsC exCh, nl8, .ow 12, .ow 15]) rfl rfl (fun k hk j hj => ?_) ?_
 ·obtain rfl : k = 0 := Nat.lt_one_iff.mp hk
  have : j = 0 ∨ j = 1 ∨ j = 2 ∨ j = 3 ∨ j = 4 := by omega
  rcases this with rfl | rfl | rfl | rfl | rfl
  ·exact Cv.refl _
  ·exact exL_cv
  ·exact Cv.refl _
  ·exact Cv.refl _
  ·exact Cv.refl _
 repeat (first
  | refine AWp.seq ?_
  | refine thenA_n ?_
  | refine AWp.block ?_
  | (refine rG 2 ?_
     refine kA ?_
     refine qr5 (aO tyOk) ?_
     refine kA ?_
     refine aB ?_))
 refine AWp.round (fun k : Nat =>
  mkSt 34 [(0, .c (lsS fx)), (2, .c (.pt 2 5 0 0)), (3, .c (.pt 3 5 0 0)), (17, .c (lsS fx)), (18, .c (iC fx.length)), (19, .c (iC (k : Nat)))] [(2, ⟨false, 1, 5, 32, lF [nl8, nl8, nl8, nl8, nl8]⟩), (3, ⟨false, 1, 5, 32, lF [nl8, lsC exCh, .ow 20, .ow 12, .ow 15]⟩), (12, bgB [bg0, bg0]), (15, bgB (List.replicate fx.length bg0)), (20, bpB ((fx.take (k : Nat)).map rwB))] [2, 3, 12, 15, 20]
  ) (fun k => k ≤ fx.length) (fun k => fx.length - k) 0 (Nat.zero_le _) ?_ (fun k hk => ?_)
 ·refine Wk.mk [(2, some 2), (3, some 3), (12, some 12), (15, some 15), (20, none)] rfl rfl rfl ?_ ?_
  ·exact allT
  ·exact ⟨hSm, HeapOk.box rfl rfl ⟨LeC.refl _ rfl, LeC.refl _ rfl, LeC.nil _ rfl, LeC.ow _ _ rfl, LeC.ow _ _ rfl, trivial⟩ rfl, hrF bgC_imm28, hrF bgC_imm28, HeapOk.nil rfl (by simp), trivial⟩
 have htk : ((fx.take k).map rwB).length = k := by simp; omega
 by_cases hkl : k < fx.length
 ·have hkl' : (k : Int) < fx.length := by omega
  have hrk := hr k hkl
  have hsn : (fx.take (k + 1)).map rwB = (fx.take k).map rwB ++ [rwB (fx.getD k ByteArray.empty)] := by
   rw [List.take_add_one, List.getElem?_eq_getElem hkl, List.getD_eq_getElem?_getD, List.getElem?_eq_getElem hkl, List.map_append]
   rfl
  repeat (first
   | refine AWp.seq ?_
   | refine thenA_n ?_
   | refine AWp.block ?_
   | refine AWp.skip ?_
   | refine inBlk_n ?_
   | refine AWp.condT rfl cnT ?_
   | (refine rG 3 ?_
      refine qr5t aK ?_
      refine aB ?_)
   | (refine rG 4 ?_
      refine kA ?_
      refine kC ?_
      refine aB ?_)
   | (refine AWp.draw (id := 5) mixed ?_; refine kD ?_; refine kE ?_; (iterate 2 refine kA ?_); refine qr8eo2 (aP (k := k) tyOk) ?_; refine qr5o (aV tyOk) ?_; refine aH rfl rfl rfl rfl Try.func31 rfl (by kernel_rfl) (hrk) ?_; refine qr11 (AList.litSl tyOk) ?_; refine AList.appL tyOk rfl rfl rfl rfl rfl rfl rfl rfl rfl rfl oM oM ?_; refine kD ?_; refine kI ?_; refine aB ⟨by kernel_rfl, ?_⟩)
   | (refine rG 6 ?_
      refine qr4w2 aL ?_
      refine kA ?_
      refine aB ?_))
  refine ⟨k + 1, hkl, ?_, by omega⟩
  rw [hsn]
  refine Wk.mk [(2, some 2), (3, some 3), (12, some 12), (15, some 15), (20, some 30)] rfl rfl rfl ?_ ?_
  ·exact allT
  ·exact ⟨
   hSm, HeapOk.box rfl rfl ⟨LeC.refl _ rfl, LeC.refl _ rfl, LeC.ow _ _ rfl, LeC.ow _ _ rfl, LeC.ow _ _ rfl, trivial⟩ rfl, hrF bgC_imm28, hrF bgC_imm28
   , HeapOk.row rfl rfl List.length_append (row_snoc _ _ bpC_imm rfl), trivial⟩
 ·have hkl' : ¬ (k : Int) < fx.length := by omega
  obtain rfl : k = fx.length := by omega
  unfold exPb
  rw [List.take_length] at *
  repeat (first
   | refine AWp.seq ?_
   | refine thenA_n ?_
   | refine AWp.exit ?_
   | refine AWp.ret ?_
   | refine AWp.condF rfl cnF ?_
   | (refine rG 3 ?_
      refine qr5f aJ ?_
      refine aB ?_)
   | (refine rG 7 ?_
      refine kF ?_
      refine kI ?_
      refine aB ?_))
  refine ⟨mkSt 34 [(2, .c (.pt 2 5 0 0))] [(2, ⟨false, 1, 5, 32, lF (pbC ⟨[], exCh, fx.map rwB, [bg0, bg0], List.replicate fx.length bg0⟩)⟩)] [2], [(2, ⟨false, 1, 5, 32, lF (pbC ⟨[], exCh, fx.map rwB, [bg0, bg0], List.replicate fx.length bg0⟩)⟩)], Wk.mk [(2, some 2)] rfl rfl rfl ?_ ?_, rfl, rfl, ARets.one (x := .ag _) (ARes.box tyOk rfl rfl rfl rfl rfl rfl rfl)⟩
  ·exact allT
  ·exact ⟨HeapOk.box rfl rfl ⟨LeC.nils _ _, LeC.refl _ rfl, LeC.fz rfl rfl rfl (fun i _ j _ => ⟨rfl, rowF_imm bpC_imm _ i j⟩), LeC.fz rfl rfl rfl (fun i _ j _ => ⟨rfl, rowF_imm bgC_imm28 _ i j⟩), LeC.fz rfl rfl rfl (fun i _ j _ => ⟨rfl, rowF_imm bgC_imm28 _ i j⟩), trivial⟩ rfl, trivial⟩
set_option maxHeartbeats 2000000 in
set_option maxRecDepth 100000 in
/-- .. with the list of budgets as a row of the caller's own. -/
theorem example_G (fx : List ByteArray) (hn : fx.length ≤ 10) (hfx : ∀ s ∈ fx, Ascii s) : GCalls Try.prog 28 [.c (lsS fx)] [] (.ag [lsR [], lsC exCh, lsB (fx.map rwB), .ow 900, lsG (List.replicate fx.length bg0)]) [] [bgB [bg0, bg0]] := by
 refine ge_at Try.func28 rfl rfl Try.ntmps28 rfl ?_
 have hr := fun k (hk : k < fx.length) => row28_A (fx.getD k ByteArray.empty) (hfx _ (getD_mem28 hk))
 have r1 := row28_A bsA bsA_ok
 have r2 := row28_A bsB bsB_ok
 have r3 := row28_A bsC bsC_ok
 have hrep : (List.replicate fx.length bg0).length = fx.length := List.length_replicate
 repeat (first
  | refine AWp.seq ?_
  | (refine rG 0 ?_
     refine qr5 (aM tyOk) ?_
     refine aB ?_))
 refine AWp.draw mixed ?_
 refine aH rfl rfl rfl rfl Try.func31 rfl (by kernel_rfl) (r1) ?_
 refine aH rfl rfl rfl rfl Try.func31 rfl (by kernel_rfl) (r2) ?_
 refine qr11 (AList.litSl tyOk) ?_
 refine aH rfl rfl rfl rfl Try.func31 rfl (by kernel_rfl) (r1) ?_
 refine aH rfl rfl rfl rfl Try.func31 rfl (by kernel_rfl) (r3) ?_
 (iterate 2 refine qr11 (AList.litSl tyOk) ?_)
 refine qr9e2o2 (AList.makeSl (n := 2) tyOk) ?_
 refine kA ?_
 refine qr5 (aO tyOk) ?_
 refine qr9e2o2 (AList.makeSl (n := fx.length) tyOk) ?_
 refine qr8 (aX tyOk) ?_
 refine qr5 (aM tyOk) ?_
 refine kI ?_
 refine aB ⟨by kernel_rfl, ?_⟩
 refine AWp.weak (S' := mkSt 34 [(0, .c (lsS fx)), (2, .c (.pt 2 5 0 0)), (3, .c (.pt 3 5 0 0))] [(2, ⟨false, 1, 5, 32, lF [nl8, nl8, nl8, nl8, nl8]⟩), (3, ⟨false, 1, 5, 32, lF [nl8, exLit, nl8, .ow 12, .ow 15]⟩), (12, bgB [bg0, bg0]), (15, bgB (List.replicate fx.length bg0))] [2, 3, 12, 15]) (Wk.mk [(2, some 2), (3, some 3), (12, some 12), (15, some 15)] rfl rfl rfl ?_ ?_) ?_
 ·exact allT
 ·exact ⟨hSm, HeapOk.box rfl rfl ⟨LeC.refl _ rfl, LeC.refl _ rfl, LeC.refl _ rfl, LeC.ow _ _ rfl, LeC.ow _ _ rfl, trivial⟩ rfl, HeapOk.row rfl rfl rfl (fun k hk j hj => ⟨(zF_bg k j hj).trans (bg0_rep 2 k hk j hj).symm, by show immC (zF _ k j) = true; exact congrArg immC (zF_bg k j hj)⟩), HeapOk.row rfl rfl hrep (fun k hk j hj => ⟨(zF_bg k j hj).trans (bg0_rep _ k hk j hj).symm, by show immC (zF _ k j) = true; exact congrArg immC (zF_bg k j hj)⟩), trivial⟩
 refine AWp.cvBox (id := 3) (F := lF [nl8, exLit, nl8, .ow 12, .ow 15]) (lF [nl8, lsC exCh, nl8, .ow 12, .ow 15]) rfl rfl (fun k hk j hj => ?_) ?_
 ·obtain rfl : k = 0 := Nat.lt_one_iff.mp hk
  have : j = 0 ∨ j = 1 ∨ j = 2 ∨ j = 3 ∨ j = 4 := by omega
  rcases this with rfl | rfl | rfl | rfl | rfl
  ·exact Cv.refl _
  ·exact exL_cv
  ·exact Cv.refl _
  ·exact Cv.refl _
  ·exact Cv.refl _
 repeat (first
  | refine AWp.seq ?_
  | refine thenA_n ?_
  | refine AWp.block ?_
  | (refine rG 2 ?_
     refine kA ?_
     refine qr5 (aO tyOk) ?_
     refine kA ?_
     refine aB ?_))
 refine AWp.round (fun k : Nat =>
  mkSt 34 [(0, .c (lsS fx)), (2, .c (.pt 2 5 0 0)), (3, .c (.pt 3 5 0 0)), (17, .c (lsS fx)), (18, .c (iC fx.length)), (19, .c (iC (k : Nat)))] [(2, ⟨false, 1, 5, 32, lF [nl8, nl8, nl8, nl8, nl8]⟩), (3, ⟨false, 1, 5, 32, lF [nl8, lsC exCh, .ow 20, .ow 12, .ow 15]⟩), (12, bgB [bg0, bg0]), (15, bgB (List.replicate fx.length bg0)), (20, bpB ((fx.take (k : Nat)).map rwB))] [2, 3, 12, 15, 20]
  ) (fun k => k ≤ fx.length) (fun k => fx.length - k) 0 (Nat.zero_le _) ?_ (fun k hk => ?_)
 ·refine Wk.mk [(2, some 2), (3, some 3), (12, some 12), (15, some 15), (20, none)] rfl rfl rfl ?_ ?_
  ·exact allT
  ·exact ⟨hSm, HeapOk.box rfl rfl ⟨LeC.refl _ rfl, LeC.refl _ rfl, LeC.nil _ rfl, LeC.ow _ _ rfl, LeC.ow _ _ rfl, trivial⟩ rfl, hrF bgC_imm28, hrF bgC_imm28, HeapOk.nil rfl (by simp), trivial⟩
 have htk : ((fx.take k).map rwB).length = k := by simp; omega
 by_cases hkl : k < fx.length
 ·have hkl' : (k : Int) < fx.length := by omega
  have hrk := hr k hkl
  have hsn : (fx.take (k + 1)).map rwB = (fx.take k).map rwB ++ [rwB (fx.getD k ByteArray.empty)] := by
   rw [List.take_add_one, List.getElem?_eq_getElem hkl, List.getD_eq_getElem?_getD, List.getElem?_eq_getElem hkl, List.map_append]
   rfl
  repeat (first
   | refine AWp.seq ?_
   | refine thenA_n ?_
   | refine AWp.block ?_
   | refine AWp.skip ?_
   | refine inBlk_n ?_
   | refine AWp.condT rfl cnT ?_
   | (refine rG 3 ?_
      refine qr5t aK ?_
      refine aB ?_)
   | (refine rG 4 ?_
      refine kA ?_
      refine kC ?_
      refine aB ?_)
   | (refine AWp.draw (id := 5) mixed ?_; refine kD ?_; refine kE ?_; (iterate 2 refine kA ?_); refine qr8eo2 (aP (k := k) tyOk) ?_; refine qr5o (aV tyOk) ?_; refine aH rfl rfl rfl rfl Try.func31 rfl (by kernel_rfl) (hrk) ?_; refine qr11 (AList.litSl tyOk) ?_; refine AList.appL tyOk rfl rfl rfl rfl rfl rfl rfl rfl rfl rfl oM oM ?_; refine kD ?_; refine kI ?_; refine aB ⟨by kernel_rfl, ?_⟩)
   | (refine rG 6 ?_
      refine qr4w2 aL ?_
      refine kA ?_
      refine aB ?_))
  refine ⟨k + 1, hkl, ?_, by omega⟩
  rw [hsn]
  refine Wk.mk [(2, some 2), (3, some 3), (12, some 12), (15, some 15), (20, some 30)] rfl rfl rfl ?_ ?_
  ·exact allT
  ·exact ⟨
   hSm, HeapOk.box rfl rfl ⟨LeC.refl _ rfl, LeC.refl _ rfl, LeC.ow _ _ rfl, LeC.ow _ _ rfl, LeC.ow _ _ rfl, trivial⟩ rfl, hrF bgC_imm28, hrF bgC_imm28
   , HeapOk.row rfl rfl List.length_append (row_snoc _ _ bpC_imm rfl), trivial⟩
 ·have hkl' : ¬ (k : Int) < fx.length := by omega
  obtain rfl : k = fx.length := by omega
  rw [List.take_length] at *
  repeat (first
   | refine AWp.seq ?_
   | refine thenA_n ?_
   | refine AWp.exit ?_
   | refine AWp.ret ?_
   | refine AWp.condF rfl cnF ?_
   | (refine rG 3 ?_
      refine qr5f aJ ?_
      refine aB ?_)
   | (refine rG 7 ?_
      refine kF ?_
      refine kI ?_
      refine aB ?_))
  refine ⟨mkSt 34 [(2, .c (.pt 2 5 0 0))] [(2, ⟨false, 1, 5, 32, lF [lsR [], lsC exCh, lsB (fx.map rwB), .ow 900, lsG (List.replicate fx.length bg0)]⟩), (900, bgB [bg0, bg0])] [2, 900], [(2, ⟨false, 1, 5, 32, lF [lsR [], lsC exCh, lsB (fx.map rwB), .ow 900, lsG (List.replicate fx.length bg0)]⟩)], _, [], [bgB [bg0, bg0]], ⟨rfl, rfl, rfl⟩, rfl, Wk.mk [(2, some 2), (900, some 12)] rfl rfl rfl ?_ ?_, rfl, rfl, GRets.one (x := .ag _) (GRes.box tyOk rfl rfl rfl rfl rfl rfl)⟩
  ·exact allT
  ·exact ⟨HeapOk.box rfl rfl ⟨LeC.nils _ _, LeC.refl _ rfl, LeC.fz rfl rfl rfl (fun i _ j _ => ⟨rfl, rowF_imm bpC_imm _ i j⟩), LeC.ow _ _ rfl, LeC.fz rfl rfl rfl (fun i _ j _ => ⟨rfl, rowF_imm bgC_imm28 _ i j⟩), trivial⟩ rfl, hrF bgC_imm28, trivial⟩
end Go.Proofs.Ytjjaehpkccejaaa
end

section
namespace Go.Proofs.Ytjjaehpkccejaaa
open Go.RowKit Go.Flow Go.AV Go.Plain
abbrev bsD : ByteArray := ⟨#[35, 35, 46, 46]⟩
abbrev bsE : ByteArray := ⟨#[46, 35, 35, 46]⟩
abbrev bsF : ByteArray := ⟨#[46, 46, 46]⟩
theorem bsD_ok : Ascii bsD := ascii4 (by decide)
theorem bsE_ok : Ascii bsE := ascii4 (by decide)
theorem bsF_ok : Ascii bsF := ascii4 (by decide)
abbrev pbO (O : List Bg) : Pb := ⟨[], exCh, [], O, []⟩
abbrev pbR (R : List Rd) : Pb := ⟨R, exCh, [], [bg0, bg0], []⟩
theorem pb_ok {R : List Rd} {F : List Bp} {O T : List Bg} (hR : RdOk R) (h : (Nat.ble R.length 1000 && (Nat.ble F.length 1000 && (Nat.ble O.length 1000 && Nat.ble T.length 1000))) = true) : (⟨R, exCh, F, O, T⟩ : Pb).ok := by
 simp only [Bool.and_eq_true, Nat.ble_eq] at h
 refine ⟨hR, by show R.length ≤ _; omega, (by decide : 2 ≤ 1000000), by show F.length ≤ _; omega, by show O.length ≤ _; omega, by show T.length ≤ _; omega, fun l hl => ?_⟩
 rcases List.mem_cons.1 hl with rfl | hl
 ·decide
 ·obtain rfl := List.mem_singleton.1 hl
  decide
theorem rd_nil : RdOk [] := fun _ h => by cases h
theorem ex_v1 : solveV (exPb []) = ([0, 1], 0) := by decide +kernel
theorem ex_v2 : solveV (exPb [bsA]) = ([1, 1], 0) := by decide +kernel
theorem ex_v3 : solveV (exPb [bsA, bsC]) = ([], 60) := by decide +kernel
theorem ex_v4 : solveV ⟨[], [], [], [], []⟩ = ([], 0) := by decide +kernel
theorem ex_v5 : solveV (pbO [⟨1, 0, 0, 0⟩, bg0]) = ([0, 1], 0) := by decide +kernel
theorem ex_v6 : solveV (pbO [⟨1, 1, 0, 0⟩, bg0]) = ([], 60) := by decide +kernel
theorem ex_v7 : solveV (pbR [⟨1, 9⟩]) = ([], 60) := by decide +kernel
theorem ex_h1 : holdsV (exPb []) 2 (fI [0, 1]) = true := by decide +kernel
theorem ex_h2 : holdsV (exPb []) 2 (fI [0, 0]) = false := by decide +kernel
theorem ex_h3 : holdsV (exPb []) 1 (fI [0]) = false := by decide +kernel
theorem ex_c1 : ((clashV [] (rwB bsD) (rwB bsE) ⟨0, 0, 1, 0⟩ bg0).1, clC (clashV [] (rwB bsD) (rwB bsE) ⟨0, 0, 1, 0⟩ bg0).2.1, (clashV [] (rwB bsD) (rwB bsE) ⟨0, 0, 1, 0⟩ bg0).2.2) = (0, [iC (-1), iC 0, iC (-4)], true) := by
 have h : ((clashV [] (rwB bsD) (rwB bsE) ⟨0, 0, 1, 0⟩ bg0).1, (clashV [] (rwB bsD) (rwB bsE) ⟨0, 0, 1, 0⟩ bg0).2.1.dx, (clashV [] (rwB bsD) (rwB bsE) ⟨0, 0, 1, 0⟩ bg0).2.1.dy, (clashV [] (rwB bsD) (rwB bsE) ⟨0, 0, 1, 0⟩ bg0).2.1.col, (clashV [] (rwB bsD) (rwB bsE) ⟨0, 0, 1, 0⟩ bg0).2.2) = (0, -1, 0, -4, true) := by decide +kernel
 simp only [Prod.mk.injEq] at h
 obtain ⟨h1, h2, h3, h4, h5⟩ := h
 rw [h1, h5]
 show (0, [iC _, iC _, iC _], true) = _
 rw [h2, h3, h4]
theorem ex_c2 : (clashV [] (rwB bsD) (rwB bsE) bg0 bg0).2.2 = false := by decide +kernel
theorem ex_k1 : chkP (pbO [bg0]) = 1 := by decide +kernel
theorem ex_k2 : chkP (exPb [bsF]) = 13 := by decide +kernel
theorem ex_k3 : chkP (pbR [⟨0, 0⟩, ⟨0, 0⟩, ⟨0, 0⟩, ⟨0, 0⟩, ⟨0, 0⟩]) = 2 := by decide +kernel
theorem ex_k4 : chkP (exPb []) = 0 := by decide +kernel
end Go.Proofs.Ytjjaehpkccejaaa
end

section
namespace Go.Proofs.Ytjjaehpkccejaaa
open Go.RowKit Go.Flow Go.AV Go.Plain
theorem cvRefl : ∀ l : List CV, LeL Cv l l
 | [] => trivial
 | x :: l => ⟨Cv.refl x, cvRefl l⟩
theorem lit2 (a b : Int) : Cv (.ls 2 1 (sF [iC a, iC b] 1)) (lsI [a, b]) := Cv.lit fun k hk => by
 have : k = 0 ∨ k = 1 := by omega
 rcases this with rfl | rfl <;> rfl
theorem lit1 (a : Int) : Cv (.ls 1 1 (sF [iC a] 1)) (lsI [a]) := Cv.lit fun k hk => by
 obtain rfl : k = 0 := Nat.lt_one_iff.mp hk
 rfl
theorem litS1 (s : ByteArray) : Cv (.ls 1 1 (sF [.p (.string s)] 1)) (lsS [s]) := Cv.lit fun k hk => by
 obtain rfl : k = 0 := Nat.lt_one_iff.mp hk
 rfl
theorem litS2 (s t : ByteArray) : Cv (.ls 2 1 (sF [.p (.string s), .p (.string t)] 1)) (lsS [s, t]) := Cv.lit fun k hk => by
 have : k = 0 ∨ k = 1 := by omega
 rcases this with rfl | rfl <;> rfl
theorem asc1 {a : ByteArray} (h : Ascii a) : ∀ s ∈ [a], Ascii s := fun s hs => List.mem_singleton.1 hs ▸ h
theorem asc2 {a b : ByteArray} (h : Ascii a) (h' : Ascii b) : ∀ s ∈ [a, b], Ascii s := fun s hs => by
 rcases List.mem_cons.1 hs with rfl | hs
 ·exact h
 ·exact List.mem_singleton.1 hs ▸ h'
abbrev litI2 (a b : Int) : CV := .ls 2 1 (sF [iC a, iC b] 1)
theorem solvL {p : Pb} (hp : p.ok) {a b : Int} (h : solveV p = ([a, b], 0)) : ACalls Try.prog 29 [.ag (pbC p), .c (litI2 a b)] (.c (bC true)) := by
 have := solved28_A p hp [a, b]
 rw [h, decide_eq_true rfl] at this
 exact this.cv ⟨.ag (cvRefl _), .c (lit2 a b), trivial⟩
theorem refL {p : Pb} (hp : p.ok) {e : Int} (h : solveV p = ([], e)) : ACalls Try.prog 30 [.ag (pbC p), .c (iC e)] (.c (bC true)) := by
 have := refused28_A p hp e
 rw [h, decide_eq_true rfl] at this
 exact this
theorem holdL {p : Pb} (hp : p.ok) {a b : Int} {v : Bool} (h : holdsV p 2 (fI [a, b]) = v) : ACalls Try.prog 14 [.ag (pbC p), .c (litI2 a b)] (.c (bC v)) := by
 have := Holds28_A p hp 2 (fI [a, b]) (by decide)
 rw [h] at this
 exact this.cv ⟨.ag (cvRefl _), .c (lit2 a b), trivial⟩
theorem holdL1 {p : Pb} (hp : p.ok) {a : Int} {v : Bool} (h : holdsV p 1 (fI [a]) = v) : ACalls Try.prog 14 [.ag (pbC p), .c (.ls 1 1 (sF [iC a] 1))] (.c (bC v)) := by
 have := Holds28_A p hp 1 (fI [a]) (by decide)
 rw [h] at this
 exact this.cv ⟨.ag (cvRefl _), .c (lit1 a), trivial⟩
theorem chkL {p : Pb} (hp : p.ok) {e : Int} (h : chkP p = e) : ACalls Try.prog 12 [.ag (pbC p)] (.c (iC e)) := by
 have := Check28_A p hp
 rwa [h] at this
theorem fzP {S : St} {O : List Bg} (h : S.h 150 = some (bgB O)) : LeL (FzC S [150]) [lsR [], lsC exCh, lsB [], .ow 150, lsG []] (pbC (pbO O)) :=
 ⟨.inl ⟨rfl, rfl⟩, .inl ⟨rfl, rfl⟩, .inl ⟨rfl, rfl⟩, .inr ⟨150, O.length, 4, _, _, _, rfl, rfl, List.mem_singleton.2 rfl, h, fun i _ j _ => ⟨rfl, rowF_imm bgC_imm28 _ i j⟩⟩, .inl ⟨rfl, rfl⟩, trivial⟩
theorem backEx : BackA [] [150] (.ag [lsR [], lsC exCh, lsB [], .ow 900, lsG []]) (.ag [lsR [], lsC exCh, lsB [], .ow 150, lsG []]) := .ag ⟨.imm _ rfl, .imm _ rfl, .imm _ rfl, .owN 0 150 rfl, .imm _ rfl, trivial⟩
theorem set_bg {F : Nat → Nat → CV} {a b : Bg} (h : ∀ k, k < 2 → ∀ j, j < 4 → F k j = rowF bgC bgZ [a, b] k j) : ∀ k, k < 2 → ∀ j, j < 4 → F k j = rowF bgC bgZ [a, b] k j ∧ immC (F k j) = true := fun k hk j hj => ⟨h k hk j hj, by rw [h k hk j hj]; exact rowF_imm bgC_imm28 _ k j⟩
set_option maxHeartbeats 4000000 in
set_option maxRecDepth 100000 in
theorem sanity28_A : ACalls Try.prog 9 [] (.c (bC true)) := by
 have okN : (exPb []).ok := pb_ok rd_nil (by decide)
 have ok1 : (exPb [bsA]).ok := pb_ok rd_nil (by decide)
 have ok2 : (exPb [bsA, bsC]).ok := pb_ok rd_nil (by decide)
 have okF : (exPb [bsF]).ok := pb_ok rd_nil (by decide)
 have okO : ∀ O : List Bg, O.length ≤ 1000 → (pbO O).ok := fun O h => pb_ok rd_nil (by simp; exact h)
 have okZ : (⟨[], [], [], [], []⟩ : Pb).ok := ⟨rd_nil, by decide, by decide, by decide, by decide, by decide, fun _ h => by cases h⟩
 have hEG : GCalls Try.prog 28 [.c nl8] [] (.ag [lsR [], lsC exCh, lsB [], .ow 900, lsG []]) [] [bgB [bg0, bg0]] := (example_G [] (by decide) (fun _ h => by cases h)).cv (args' := [.c nl8]) ⟨.c Cv.nil, trivial⟩
 have hE0 := (example_A [] (by decide) (fun _ h => by cases h)).cv (args' := [.c nl8]) ⟨.c Cv.nil, trivial⟩
 have hE1 := (example_A [bsA] (by decide) (asc1 bsA_ok)).cv (args' := [.c (.ls 1 1 (sF [.p (.string bsA)] 1))]) ⟨.c (litS1 bsA), trivial⟩
 have hE2 := (example_A [bsA, bsC] (by decide) (asc2 bsA_ok bsC_ok)).cv (args' := [.c (.ls 2 1 (sF [.p (.string bsA), .p (.string bsC)] 1))]) ⟨.c (litS2 bsA bsC), trivial⟩
 have hEF := (example_A [bsF] (by decide) (asc1 bsF_ok)).cv (args' := [.c (.ls 1 1 (sF [.p (.string bsF)] 1))]) ⟨.c (litS1 bsF), trivial⟩
 have s1 := solvL (okO [bg0, bg0] (by decide)) ex_v1
 have s2 := solvL ok1 ex_v2
 have s3 := refL ok2 ex_v3
 have s4 : ACalls Try.prog 29 [.ag [nl8, nl8, nl8, nl8, nl8], .c nl8] (.c (bC true)) := by
  have := solved28_A _ okZ []
  rw [ex_v4, decide_eq_true rfl] at this
  exact this.cv ⟨.ag ⟨Cv.nil, Cv.nil, Cv.nil, Cv.nil, Cv.nil, trivial⟩, .c Cv.nil, trivial⟩
 refine acalls_at Try.func9 rfl rfl Try.ntmps9 rfl ?_
 repeat (first
  | refine AWp.seq ?_
  | (refine rG 0 ?_
     refine kC ?_
     refine aB ?_))
 refine aY ?_
 refine AList.callG [] [150] [] [] [bgB [bg0, bg0]] [] [bgB [bg0, bg0]] rfl rfl FnV.func rfl Try.func28 rfl (by kernel_rfl) (trivial) rfl (backEx) (trivial) (BackB.same (fun k _ j _ => rowF_imm bgC_imm28 _ k j) trivial) (hEG) ?_
 refine qr5 (aM tyOk) ?_
 refine kI ?_
 refine aB ?_
 refine AWp.weak (S' :=
  mkSt 150 [(1, .c (.pt 1 5 0 0)), (0, .c (bC false))] [(1, ⟨false, 1, 5, 32, lF [lsR [], lsC exCh, lsB [], .ow 150, lsG []]⟩), (150, bgB ([bg0, bg0]))] [1, 150]
  ) (Wk.mk [(1, some 1), (150, some 150)] rfl rfl rfl ?_ ?_) ?_
 ·exact allT
 ·exact ⟨HeapOk.box rfl rfl ⟨LeC.refl _ rfl, LeC.refl _ rfl, LeC.refl _ rfl, LeC.ow _ _ rfl, LeC.refl _ rfl, trivial⟩ rfl, hrF bgC_imm28, trivial⟩
 repeat (first
  | refine AWp.seq ?_)
 refine aY ?_
 refine kF ?_
 refine qr11 (AList.litSl tyOk) ?_
 refine AList.callPW [150] rfl rfl rfl Try.func29 rfl (by kernel_rfl) (s1) (⟨.ag (fzP rfl), .c (.inl ⟨rfl, rfl⟩), trivial⟩) ?_
 refine kA ?_
 refine qr11 (AList.litSl tyOk) ?_
 refine aH rfl rfl rfl rfl Try.func28 rfl (by kernel_rfl) (hE1) ?_
 refine qr11 (AList.litSl tyOk) ?_
 refine aH rfl rfl rfl rfl Try.func29 rfl (by kernel_rfl) (s2) ?_
 refine qr4 aS ?_
 refine kA ?_
 refine qr11 (AList.litSl tyOk) ?_
 refine aH rfl rfl rfl rfl Try.func28 rfl (by kernel_rfl) (hE2) ?_
 refine aH rfl rfl rfl rfl Try.func30 rfl (by kernel_rfl) (s3) ?_
 refine qr4 aS ?_
 refine kA ?_
 refine qr8 (aX tyOk) ?_
 refine aH rfl rfl rfl rfl Try.func29 rfl (by kernel_rfl) (s4) ?_
 refine qr4 aS ?_
 refine kC ?_
 refine aB ?_
 clear s1 s2 s3 s4 hE1 hE2 ok1 ok2 okZ hEG
 have s5 := solvL (okO [⟨1, 0, 0, 0⟩, bg0] (by decide)) ex_v5
 have s6 := refL (okO [⟨1, 1, 0, 0⟩, bg0] (by decide)) ex_v6
 repeat (first
  | refine AWp.seq ?_
  | (refine rG 3 ?_
     refine kD ?_
     refine kE ?_
     refine qr8 (aX tyOk) ?_
     refine qr10eo (AList.idxOw (k := 0) tyOk) ?_
     refine kI ?_
     refine aB ?_))
 refine AWp.weak (S' :=
  mkSt 150 [(1, .c (.pt 1 5 0 0)), (2, .c (bC true))] [(1, ⟨false, 1, 5, 32, lF [lsR [], lsC exCh, lsB [], .ow 150, lsG []]⟩), (150, bgB ([⟨1, 0, 0, 0⟩, bg0]))] [1, 150]
  ) (Wk.mk [(1, some 1), (150, some 150)] rfl rfl rfl ?_ ?_) ?_
 ·exact allT
 ·exact ⟨HeapOk.box rfl rfl ⟨LeC.refl _ rfl, LeC.refl _ rfl, LeC.refl _ rfl, LeC.ow _ _ rfl, LeC.refl _ rfl, trivial⟩ rfl, HeapOk.row rfl rfl rfl (set_bg fun k hk j hj =>
  (by
    have h1 : k = 0 ∨ k = 1 := by omega
    have h2 : j = 0 ∨ j = 1 ∨ j = 2 ∨ j = 3 := by omega
    rcases h1 with rfl | rfl <;> rcases h2 with rfl | rfl | rfl | rfl <;> rfl)
  ), trivial⟩
 repeat (first
  | refine AWp.seq ?_
  | (refine rG 4 ?_
     refine kF ?_
     refine qr11 (AList.litSl tyOk) ?_
     refine AList.callPW [150] rfl rfl rfl Try.func29 rfl (by kernel_rfl) (s5) (⟨.ag (fzP rfl), .c (.inl ⟨rfl, rfl⟩), trivial⟩) ?_
     refine kC ?_
     refine aB ?_)
  | (refine rG 5 ?_
     refine kD ?_
     refine kE ?_
     refine qr10eo (AList.idxOw (k := 0) tyOk) ?_
     refine kD ?_
     refine kI ?_
     refine aB ?_))
 refine AWp.weak (S' :=
  mkSt 150 [(1, .c (.pt 1 5 0 0)), (2, .c (bC true)), (3, .c (bC true))] [(1, ⟨false, 1, 5, 32, lF [lsR [], lsC exCh, lsB [], .ow 150, lsG []]⟩), (150, bgB ([⟨1, 1, 0, 0⟩, bg0]))] [1, 150]
  ) (Wk.mk [(1, some 1), (150, some 150)] rfl rfl rfl ?_ ?_) ?_
 ·exact allT
 ·exact ⟨HeapOk.box rfl rfl ⟨LeC.refl _ rfl, LeC.refl _ rfl, LeC.refl _ rfl, LeC.ow _ _ rfl, LeC.refl _ rfl, trivial⟩ rfl, HeapOk.row rfl rfl rfl (set_bg fun k hk j hj =>
  (by
    have h1 : k = 0 ∨ k = 1 := by omega
    have h2 : j = 0 ∨ j = 1 ∨ j = 2 ∨ j = 3 := by omega
    rcases h1 with rfl | rfl <;> rcases h2 with rfl | rfl | rfl | rfl <;> rfl)
  ), trivial⟩
 have h1 := holdL okN ex_h1
 have h2 := holdL okN ex_h2
 have h3 := holdL1 okN ex_h3
 repeat (first
  | refine AWp.seq ?_
  | (refine rG 6 ?_
     refine kF ?_
     refine AList.callPW [150] rfl rfl rfl Try.func30 rfl (by kernel_rfl) (s6) (⟨.ag (fzP rfl), .c (.inl ⟨rfl, rfl⟩), trivial⟩) ?_
     refine kC ?_
     refine aB ?_)
  | (refine rG 7 ?_
     refine aH rfl rfl rfl rfl Try.func28 rfl (by kernel_rfl) (hE0) ?_
     refine kI ?_
     refine aB ?_)
  | (refine rG 8 ?_
     refine kF ?_
     refine qr11 (AList.litSl tyOk) ?_
     refine aH rfl rfl rfl rfl Try.func14 rfl (by kernel_rfl) (h1) ?_
     refine kA ?_
     refine kF ?_
     refine qr11 (AList.litSl tyOk) ?_
     refine aH rfl rfl rfl rfl Try.func14 rfl (by kernel_rfl) (h2) ?_
     refine qr3 AList.notB ?_
     refine qr4 aS ?_
     refine kA ?_
     refine kF ?_
     refine qr11 (AList.litSl tyOk) ?_
     refine aH rfl rfl rfl rfl Try.func14 rfl (by kernel_rfl) (h3) ?_
     refine qr3 AList.notB ?_
     refine qr4 aS ?_
     refine kC ?_
     refine aB ?_)
  | (refine rG 9 ?_
     refine qr8 (aX tyOk) ?_
     refine qr11 (AList.litSl tyOk) ?_
     refine kD ?_
     refine kI ?_
     refine aB ?_))
 refine AWp.weak (S' := mkSt 150 [(1, .c (.pt 1 5 0 0)), (2, .c (bC true)), (3, .c (bC true)), (4, .c (bC true)), (5, .c (bC true))] [(1, ⟨false, 1, 5, 32, lF (pbC (pbR [⟨1, 9⟩]))⟩)] [1]) (Wk.mk [(1, some 1)] rfl rfl rfl ?_ ?_) ?_
 ·exact allT
 ·exact ⟨HeapOk.box rfl rfl ⟨LeC.lz rfl (fun k hk j hj => by
   obtain rfl : k = 0 := Nat.lt_one_iff.mp hk
   replace hj : j < 2 := hj
   have h2 : j = 0 ∨ j = 1 := by omega
   rcases h2 with rfl | rfl <;> rfl), LeC.refl _ rfl, LeC.refl _ rfl, LeC.refl _ rfl, LeC.refl _ rfl, trivial⟩ rfl, trivial⟩
 clear s5 s6 h1 h2 h3
 have s7 := refL (p := pbR [⟨1, 9⟩]) (pb_ok (fun r h => by obtain rfl := List.mem_singleton.1 h; exact ⟨by decide, by decide⟩) (by decide)) ex_v7
 have rD := row28_A bsD bsD_ok
 have rE := row28_A bsE bsE_ok
 have c1 := Clash_A (exPb []) (rwB bsD) (rwB bsE) ⟨0, 0, 1, 0⟩ bg0 okN.lR okN.rd
 have c2 := Clash_A (exPb []) (rwB bsD) (rwB bsE) bg0 bg0 okN.lR okN.rd
 have e1 := ex_c1
 have e2 := ex_c2
 change ACalls _ _ _ (.tu [.c (iC (clashV [] (rwB bsD) (rwB bsE) ⟨0, 0, 1, 0⟩ bg0).1), .ag (clC (clashV [] (rwB bsD) (rwB bsE) ⟨0, 0, 1, 0⟩ bg0).2.1), .c (bC (clashV [] (rwB bsD) (rwB bsE) ⟨0, 0, 1, 0⟩ bg0).2.2)]) at c1
 change ACalls _ _ _ (.tu [.c (iC (clashV [] (rwB bsD) (rwB bsE) bg0 bg0).1), .ag (clC (clashV [] (rwB bsD) (rwB bsE) bg0 bg0).2.1), .c (bC (clashV [] (rwB bsD) (rwB bsE) bg0 bg0).2.2)]) at c2
 rw [e2] at c2
 generalize clashV [] (rwB bsD) (rwB bsE) ⟨0, 0, 1, 0⟩ bg0 = o1 at c1 e1
 generalize clashV [] (rwB bsD) (rwB bsE) bg0 bg0 = o2 at c2
 obtain ⟨a1, a2, a3⟩ := o1
 obtain ⟨b1, b2, b3⟩ := o2
 simp only [Prod.mk.injEq] at e1
 obtain ⟨rfl, e1b, rfl⟩ := e1
 dsimp only at c1 c2
 rw [e1b] at c1
 clear e1b e2
 have hcl : ∀ w, (Go.binOp .eql 54 _ _).run Try.prog w = .ok (.bool true) w := fun w => (cl_eq ⟨-1, 0, -4⟩ ⟨-1, 0, -4⟩ w).trans (by rw [decide_eq_true rfl])
 repeat (first
  | refine AWp.seq ?_
  | (refine rG 10 ?_
     refine kF ?_
     refine aH rfl rfl rfl rfl Try.func30 rfl (by kernel_rfl) (s7) ?_
     refine kC ?_
     refine aB ?_)
  | (refine rG 11 ?_
     refine aH rfl rfl rfl rfl Try.func28 rfl (by kernel_rfl) (hE0) ?_
     refine aH rfl rfl rfl rfl Try.func31 rfl (by kernel_rfl) (rD) ?_
     refine aH rfl rfl rfl rfl Try.func31 rfl (by kernel_rfl) (rE) ?_
     (iterate 2 refine qr8 (aX tyOk) ?_)
     refine aH rfl rfl rfl rfl Try.func19 rfl (by kernel_rfl) (c1) ?_
     refine kA ?_
     (iterate 3 refine qr4 aN ?_)
     refine qr5 (aM tyOk) ?_
     refine kC ?_
     refine kI ?_
     refine kC ?_
     refine aB ?_)
  | (refine rG 12 ?_
     refine aH rfl rfl rfl rfl Try.func28 rfl (by kernel_rfl) (hE0) ?_
     refine aH rfl rfl rfl rfl Try.func31 rfl (by kernel_rfl) (rD) ?_
     refine aH rfl rfl rfl rfl Try.func31 rfl (by kernel_rfl) (rE) ?_
     (iterate 2 refine qr8 (aX tyOk) ?_)
     refine aH rfl rfl rfl rfl Try.func19 rfl (by kernel_rfl) (c2) ?_
     refine kA ?_
     (iterate 3 refine qr4 aN ?_)
     refine qr5 (aM tyOk) ?_
     refine kC ?_
     refine kI ?_
     refine kC ?_
     refine aB ?_)
  | (refine rG 13 ?_
     refine kA ?_
     refine qr5t aK ?_
     (iterate 2 refine kA ?_)
     refine qr4 aS ?_
     refine kA ?_
     refine kF ?_
     refine qr8 (aX tyOk) ?_
     refine AList.binAg rfl rfl rfl rfl rfl rfl (by kernel_rfl) (hcl) ?_
     refine qr4 aS ?_
     (iterate 2 refine kA ?_)
     refine qr3 AList.notB ?_
     refine qr4 aS ?_
     refine kC ?_
     refine aB ?_))
 clear s7 c1 c2 rD rE
 repeat (first
  | refine AWp.seq ?_
  | (refine rG 14 ?_
     refine aH rfl rfl rfl rfl Try.func28 rfl (by kernel_rfl) (hE0) ?_
     refine qr11 (AList.litSl tyOk) ?_
     refine aH rfl rfl rfl rfl Try.func28 rfl (by kernel_rfl) (hEF) ?_
     refine aH rfl rfl rfl rfl Try.func28 rfl (by kernel_rfl) (hE0) ?_
     (iterate 3 refine qr5 (aM tyOk) ?_)
     (iterate 3 refine kI ?_)
     refine aB ?_))
 refine AWp.weak (S' := mkSt 150 [(2, .c (bC true)), (3, .c (bC true)), (4, .c (bC true)), (5, .c (bC true)), (6, .c (bC true)), (13, .c (bC true)), (14, .c (.pt 14 5 0 0)), (15, .c (.pt 15 5 0 0)), (16, .c (.pt 16 5 0 0))] [(14, ⟨false, 1, 5, 32, lF [lsR [], lsC exCh, lsB [], .ls 2 4 (rowF bgC bgZ [bg0, bg0]), lsG []]⟩), (15, ⟨false, 1, 5, 32, lF (pbC (exPb [bsF]))⟩), (16, ⟨false, 1, 5, 32, lF (pbC (exPb []))⟩)] [14, 15, 16]) (Wk.mk [(14, some 14), (15, some 15), (16, some 16)] rfl rfl rfl ?_ ?_) ?_
 ·exact allT
 ·exact ⟨hSm, hSm, hSm, trivial⟩
 skip
 refine aY ?_
 refine kD ?_
 refine kE ?_
 refine AList.cut (l := 0) (h := 1) tyOk rfl rfl rfl rfl rfl rfl rfl rfl ⟨_, _, rfl, by first | rfl | omega⟩ (by omega) (by omega) ?_
 refine kD ?_
 refine kI ?_
 refine aB ?_
 repeat (first
  | refine AWp.seq ?_)
 refine aY ?_
 refine qr9e2o2 (AList.makeSl (n := 5) tyOk) ?_
 refine kD ?_
 refine kI ?_
 refine aB ?_
 refine AWp.weak (S' := mkSt 150 [(2, .c (bC true)), (3, .c (bC true)), (4, .c (bC true)), (5, .c (bC true)), (6, .c (bC true)), (13, .c (bC true)), (14, .c (.pt 14 5 0 0)), (15, .c (.pt 15 5 0 0)), (16, .c (.pt 16 5 0 0))] [(14, ⟨false, 1, 5, 32, lF (pbC (pbO [bg0]))⟩), (15, ⟨false, 1, 5, 32, lF (pbC (exPb [bsF]))⟩), (16, ⟨false, 1, 5, 32, lF (pbC (pbR [⟨0, 0⟩, ⟨0, 0⟩, ⟨0, 0⟩, ⟨0, 0⟩, ⟨0, 0⟩]))⟩)] [14, 15, 16]) (Wk.mk [(14, some 14), (15, some 15), (16, some 16)] rfl rfl rfl ?_ ?_) ?_
 ·exact allT
 ·refine ⟨HeapOk.box rfl rfl ⟨LeC.refl _ rfl, LeC.refl _ rfl, LeC.refl _ rfl, LeC.lz rfl (fun k hk j hj => ?_), LeC.refl _ rfl, trivial⟩ rfl, hSm, HeapOk.box rfl rfl ⟨LeC.fz rfl rfl rfl (fun k hk j hj => ?_), LeC.refl _ rfl, LeC.refl _ rfl, LeC.refl _ rfl, LeC.refl _ rfl, trivial⟩ rfl, trivial⟩
  ·obtain rfl : k = 0 := Nat.lt_one_iff.mp hk
   rfl
  ·replace hk : k < 5 := hk
   replace hj : j < 2 := hj
   have h1 : k = 0 ∨ k = 1 ∨ k = 2 ∨ k = 3 ∨ k = 4 := by omega
   have h2 : j = 0 ∨ j = 1 := by omega
   rcases h1 with rfl | rfl | rfl | rfl | rfl <;> rcases h2 with rfl | rfl <;> exact ⟨rfl, rfl⟩
 have k1 := chkL (okO [bg0] (by decide)) ex_k1
 have k2 := chkL okF ex_k2
 have k3 := chkL (p := pbR [⟨0, 0⟩, ⟨0, 0⟩, ⟨0, 0⟩, ⟨0, 0⟩, ⟨0, 0⟩]) (pb_ok (fun r h => by simp at h; subst h; exact ⟨by decide, by decide⟩) (by decide)) ex_k3
 have k4 := chkL okN ex_k4
 repeat (first
  | refine AWp.seq ?_
  | refine thenA_n ?_
  | refine AWp.ret ?_
  | (refine rG 17 ?_
     (iterate 3 refine kA ?_)
     refine qr4 aS ?_
     (iterate 2 refine kA ?_)
     refine qr4 aS ?_
     (iterate 2 refine kA ?_)
     refine qr4 aS ?_
     (iterate 2 refine kA ?_)
     refine qr4 aS ?_
     (iterate 2 refine kA ?_)
     refine qr4 aS ?_
     refine kA ?_
     refine kF ?_
     refine aH rfl rfl rfl rfl Try.func12 rfl (by kernel_rfl) (k1) ?_
     refine qr5 aW ?_
     refine qr4 aS ?_
     refine kA ?_
     refine kF ?_
     refine aH rfl rfl rfl rfl Try.func12 rfl (by kernel_rfl) (k2) ?_
     refine qr5 aW ?_
     refine qr4 aS ?_
     refine kA ?_
     refine kF ?_
     refine aH rfl rfl rfl rfl Try.func12 rfl (by kernel_rfl) (k3) ?_
     refine qr5 aW ?_
     refine qr4 aS ?_
     refine kA ?_
     refine aH rfl rfl rfl rfl Try.func28 rfl (by kernel_rfl) (hE0) ?_
     refine aH rfl rfl rfl rfl Try.func12 rfl (by kernel_rfl) (k4) ?_
     refine qr5 aW ?_
     refine qr4 aS ?_
     refine kC ?_
     refine aB ?_))
 refine ⟨mkSt 150 [(0, .c (bC true))] [] [], [], Wk.mk [] rfl rfl rfl ?_ trivial, rfl, rfl, ARets.one (x := .c _) (ARes.tmp rfl rfl)⟩
 exact allT
end Go.Proofs.Ytjjaehpkccejaaa
end
