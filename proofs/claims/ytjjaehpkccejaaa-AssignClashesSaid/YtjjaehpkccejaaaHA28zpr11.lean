/- Parts of the proof: A28zm, A28zn. -/
import Derived.Test.YtjjaehpkccejaaaHA28zpr10
import Derived.Test.YtjjaehpkccejaaaG35
import Derived.Test.YtjjaehpkccejaaaG36
import Derived.Test.YtjjaehpkccejaaaG34
import Derived.Test.YtjjaehpkccejaaaG32
import Derived.Test.YtjjaehpkccejaaaHA28zpr08
import Derived.Test.YtjjaehpkccejaaaG33
import Derived.Test.YtjjaehpkccejaaaG15
import Derived.Test.YtjjaehpkccejaaaG25
import Derived.Test.YtjjaehpkccejaaaHA28zpr09
import Derived.Test.YtjjaehpkccejaaaG27
import Derived.Test.YtjjaehpkccejaaaG19
import Derived.Test.YtjjaehpkccejaaaHA28zpr03
import Derived.Test.YtjjaehpkccejaaaG20
import Derived.Test.YtjjaehpkccejaaaG10
import Derived.Test.YtjjaehpkccejaaaHA28zpr01
import Derived.Test.YtjjaehpkccejaaaG07
import Derived.Test.YtjjaehpkccejaaaG17
import Derived.Test.YtjjaehpkccejaaaG31
import Derived.Test.YtjjaehpkccejaaaHA28zpr07
import Derived.Test.YtjjaehpkccejaaaG26
import Derived.Laws.Pointers
import Derived.Test.YtjjaehpkccejaaaG06
import Derived.Test.YtjjaehpkccejaaaG09
import Derived.Test.YtjjaehpkccejaaaG08
import Derived.Test.YtjjaehpkccejaaaG21
import Derived.Test.YtjjaehpkccejaaaHA28zpr04
import Derived.Test.YtjjaehpkccejaaaG22
import Derived.Test.YtjjaehpkccejaaaHA28zpr05
import Derived.WideKeyMaps
import Derived.MapKept
import Derived.Carry
import Derived.Test.YtjjaehpkccejaaaG05
import Derived.Test.YtjjaehpkccejaaaProg
import Derived.Test.YtjjaehpkccejaaaG01
import Derived.Laws.StructEq
import Derived.Shelf.Abstract
import Derived.Test.YtjjaehpkccejaaaG30
import Derived.Test.YtjjaehpkccejaaaG14
import Derived.Lib.Hide
import Derived.Deep.QuietTactic
import Derived.BigQuiet
import Derived.Deep.DrawnRows
import Derived.Deep.AppendLies
import Derived.Laws.Cover3
import Derived.Test.YtjjaehpkccejaaaG13
import Derived.Test.YtjjaehpkccejaaaHA28zpr02
import Derived.Test.YtjjaehpkccejaaaG18
import Derived.Test.YtjjaehpkccejaaaG04
import Derived.Great.BuildSlice
import Derived.Maps.AppendAt
import Derived.OwnWalk
import Derived.RangeFuncNested
import Derived.Test.YtjjaehpkccejaaaG29
import Derived.WalkKit
import Derived.Test.YtjjaehpkccejaaaG03
import Derived.Scope
import Derived.Test.YtjjaehpkccejaaaG02
import Derived.RangeFuncLeaves
import Derived.RangeFuncRecord
import Derived.StillTail
import Derived.Below
import Derived.Deep.Draws
import Derived.KernelRfl
import Derived.DeepKeys4
import Derived.Test.YtjjaehpkccejaaaG28
import Derived.Test.YtjjaehpkccejaaaG16
import Derived.OrdersIn
import Derived.TacticsIn
import Derived.RangeFuncCalls
import Derived.Test.YtjjaehpkccejaaaG24
import Derived.Test.YtjjaehpkccejaaaG12
import Derived.Test.YtjjaehpkccejaaaG11
set_option linter.unusedSimpArgs false
set_option linter.unusedVariables false
section
namespace Go.Proofs.Ytjjaehpkccejaaa
open Go.RowKit Go.Flow Go.AV Go.Plain
def BpBd (B : Nat) (b : Bp) : Prop := (-(B : Int) ≤ b.W ∧ b.W ≤ B) ∧ b.n ≤ B
theorem BpBd.mono {A B : Nat} (h : A ≤ B) {b : Bp} (hb : BpBd A b) : BpBd B b := ⟨by have := hb.1; omega, by have := hb.2; omega⟩
structure Pb.bd (p : Pb) (B : Nat) : Prop where
 R : RdOk p.R
 lR : p.R.length ≤ B
 lC : p.C.length ≤ B
 lF : p.F.length ≤ B
 lO : p.O.length ≤ B
 lT : p.T.length ≤ B
 C : ∀ l ∈ p.C, l.length ≤ B ∧ ∀ b ∈ l, BpBd B b
 F : ∀ b ∈ p.F, BpBd B b
theorem Pb.bd.ok {p : Pb} {B : Nat} (h : p.bd B) (hB : B ≤ 1000000) : p.ok := by
 obtain ⟨h1, h2, h3, h4, h5, h6, h7, h8⟩ := h
 exact ⟨h1, by omega, by omega, by omega, by omega, by omega, fun l hl => by have := (h7 l hl).1; omega⟩
theorem Pb.bd.mono {p : Pb} {A B : Nat} (h : p.bd A) (hB : A ≤ B) : p.bd B := by
 obtain ⟨h1, h2, h3, h4, h5, h6, h7, h8⟩ := h
 exact ⟨h1, by omega, by omega, by omega, by omega, by omega, fun l hl => ⟨by have := (h7 l hl).1; omega, fun b hb => ((h7 l hl).2 b hb).mono hB⟩, fun b hb => (h8 b hb).mono hB⟩
theorem set_row {α : Type} {c : α → List CV} {z : α} {sz k : Nat} {e : α} (L : List α) (hc : ∀ x, (c x).all immC = true) (hk : k < L.length) : ∀ i, i < L.length → ∀ j, j < sz → setF (rowF c z L) k 0 sz (c e) i j = rowF c z (L.set k e) i j ∧ immC (setF (rowF c z L) k 0 sz (c e) i j) = true := fun i hi j hj => by
 have : setF (rowF c z L) k 0 sz (c e) i j = rowF c z (L.set k e) i j := by
  unfold setF rowF
  by_cases h : i = k
  ·subst h
   rw [Nat.beq_refl, show Nat.ble 0 j = true from Nat.ble_eq.mpr (Nat.zero_le _), show Nat.blt j (0 + sz) = true from Nat.blt_eq.mpr (by omega)]
   rw [List.getD_eq_getElem?_getD (l := L.set i e), List.getElem?_set_self hk]
   rfl
  ·rw [show Nat.beq i k = false from Bool.eq_false_iff.2 fun h' => h (Nat.eq_of_beq_eq_true h')]
   rw [List.getD_eq_getElem?_getD (l := L.set k e), List.getElem?_set_ne (Ne.symm h), ← List.getD_eq_getElem?_getD]
   rfl
 exact ⟨this, by rw [this]; exact rowF_imm hc _ i j⟩
def odd4X (b : Bp) (q : Int) : Nat → Bp
 | 0 => ⟨b.W + 1, b.H, b.n, b.d⟩
 | 1 => ⟨b.W, q, b.n, b.d⟩
 | 2 => ⟨b.W, b.H, b.n + 1, fun k => if k < b.n then b.d k else true⟩
 | 3 => ⟨b.W, b.H, b.n / 2, b.d⟩
 | 4 => ⟨-b.W, IntKind.i64.wrap (-b.H), b.n, b.d⟩
 | _ => b
set_option maxRecDepth 100000 in
theorem Odd04_A (B : Nat) (b : Bp) (q : Int) (hb : BpBd B b) (hB : B ≤ 100000) (hq : -9223372036854775808 ≤ q ∧ q ≤ 9223372036854775807) : ∃ r : Bp, BpBd (B + 1) r ∧ ACalls Try.prog 39 [.ag (bpC b), .c (iC q)] (.ag (bpC r)) := by
 obtain ⟨hW, hn⟩ := hb
 have hM := Mod_A q 6 (by omega) (by omega)
 have h0 := Int.emod_nonneg q (show (6 : Int) ≠ 0 by omega)
 have h6 := Int.emod_lt_of_pos q (show (0 : Int) < 6 by omega)
 generalize q % 6 = c at hM h0 h6
 obtain ⟨k, rfl⟩ := Int.eq_ofNat_of_zero_le h0
 refine ⟨odd4X b q k, ?_, ?_⟩
 ·match k with
  | 0 => exact ⟨by show _ ≤ b.W + 1 ∧ b.W + 1 ≤ _; omega, by show b.n ≤ _; omega⟩
  | 1 => exact ⟨by show _ ≤ b.W ∧ b.W ≤ _; omega, by show b.n ≤ _; omega⟩
  | 2 => exact ⟨by show _ ≤ b.W ∧ b.W ≤ _; omega, by show b.n + 1 ≤ _; omega⟩
  | 3 => exact ⟨by show _ ≤ b.W ∧ b.W ≤ _; omega, by show b.n / 2 ≤ _; omega⟩
  | 4 => exact ⟨by show _ ≤ -b.W ∧ -b.W ≤ _; omega, by show b.n ≤ _; omega⟩
  | k + 5 => exact ⟨by show _ ≤ b.W ∧ b.W ≤ _; omega, by show b.n ≤ _; omega⟩
 refine acalls_at Try.func39 rfl rfl Try.ntmps39 rfl ?_
 repeat (first
  | refine AWp.seq ?_
  | refine thenA_n ?_
  | refine AWp.block ?_
  | (refine rG 0 ?_
     refine qr5 aQ ?_
     refine qr5 (aM tyOk) ?_
     refine aB ?_)
  | (refine AWp.draw (id := 1) mixed ?_; refine kD ?_; refine kE ?_; refine kD ?_; refine kE ?_; refine qr7 (AList.emptySl tyOk) ?_; refine kD ?_; refine kE ?_; refine AList.appL0 tyOk rfl rfl rfl rfl rfl rfl rfl rfl rfl rfl oM oM ?_; refine qr8 (aX tyOk) ?_; refine qr5 (aM tyOk) ?_; refine kI ?_; refine aB ⟨by kernel_rfl, ?_⟩)
  | (refine rG 2 ?_
     refine kA ?_
     refine aH rfl rfl rfl rfl Try.func18 rfl (by kernel_rfl) (hM) ?_
     refine aB ?_))
 refine AWp.weak (S' :=
  mkSt 55 [(1, .c (iC q)), (4, .c (.pt 4 3 0 0)), (5, .c (.pt 5 3 0 0)), (16, .c (iC k))] [(4, ⟨false, 1, 3, 47, lF [iC 0, iC 0, .p (.slice none 0 0)]⟩), (5, ⟨false, 1, 3, 47, lF [iC b.W, iC b.H, .ow 20]⟩), (20, ⟨true, b.n, 1, 4, bF b.d⟩)] [4, 5, 20]
  ) (Wk.mk [(4, some 4), (5, some 5), (20, some 13)] rfl rfl rfl ?_ ?_) ?_
 ·exact allT
 ·exact ⟨hSm, HeapOk.box rfl rfl ⟨LeC.refl _ rfl, LeC.refl _ rfl, LeC.ow _ _ rfl, trivial⟩ rfl, HeapOk.row rfl rfl rfl (fun i _ => cell1 ⟨rfl, rfl⟩), trivial⟩
 by_cases k0 : k = 0
 ·subst k0
  repeat (first
   | refine AWp.seq ?_
   | refine thenA_n ?_
   | refine AWp.ret ?_
   | refine AWp.condT rfl cnT ?_
   | (refine rG 3 ?_
      refine qr5t aK ?_
      refine kC ?_
      refine aB ?_)
   | (refine rG 4 ?_
      refine kD ?_
      refine kE ?_
      refine qr4w2 aL ?_
      refine kD ?_
      refine kI ?_
      refine aB ?_)
   | (refine rG 14 ?_
      refine kF ?_
      refine kI ?_
      refine aB ?_))
  refine ⟨mkSt 55 [(4, .c (.pt 4 3 0 0))] [(4, ⟨false, 1, 3, 47, lF (bpC (odd4X b q 0))⟩)] [4], [(4, ⟨false, 1, 3, 47, lF (bpC (odd4X b q 0))⟩)], Wk.mk [(4, some 4)] rfl rfl rfl ?_ ?_, rfl, rfl, ARets.one (x := .ag _) (ARes.box tyOk rfl rfl rfl rfl rfl rfl rfl)⟩
  ·exact allT
  ·exact ⟨HeapOk.box rfl rfl ⟨LeC.int (by first | rfl | (dsimp only; omega)), LeC.int (by first | rfl | (dsimp only; omega)), (LeC.fz rfl rfl (by rfl) (fun _ _ _ _ => ⟨rfl, rfl⟩)), trivial⟩ rfl, trivial⟩
 repeat (first
  | refine AWp.seq ?_
  | refine thenA_n ?_
  | refine AWp.condF rfl cnF ?_
  | (refine rG 3 ?_
     refine qr5f aJ ?_
     refine kC ?_
     refine aB ?_))
 by_cases k1 : k = 1
 ·subst k1
  repeat (first
   | refine AWp.seq ?_
   | refine thenA_n ?_
   | refine AWp.ret ?_
   | refine AWp.condT rfl cnT ?_
   | (refine rG 5 ?_
      refine qr5t aK ?_
      refine kC ?_
      refine aB ?_)
   | (refine rG 6 ?_
      refine kA ?_
      refine kD ?_
      refine kI ?_
      refine aB ?_)
   | (refine rG 14 ?_
      refine kF ?_
      refine kI ?_
      refine aB ?_))
  refine ⟨mkSt 55 [(4, .c (.pt 4 3 0 0))] [(4, ⟨false, 1, 3, 47, lF (bpC (odd4X b q 1))⟩)] [4], [(4, ⟨false, 1, 3, 47, lF (bpC (odd4X b q 1))⟩)], Wk.mk [(4, some 4)] rfl rfl rfl ?_ ?_, rfl, rfl, ARets.one (x := .ag _) (ARes.box tyOk rfl rfl rfl rfl rfl rfl rfl)⟩
  ·exact allT
  ·exact ⟨HeapOk.box rfl rfl ⟨LeC.int (by first | rfl | (dsimp only; omega)), LeC.int (by first | rfl | (dsimp only; omega)), (LeC.fz rfl rfl (by rfl) (fun _ _ _ _ => ⟨rfl, rfl⟩)), trivial⟩ rfl, trivial⟩
 repeat (first
  | refine AWp.seq ?_
  | refine thenA_n ?_
  | refine AWp.condF rfl cnF ?_
  | (refine rG 5 ?_
     refine qr5f aJ ?_
     refine kC ?_
     refine aB ?_))
 by_cases k2 : k = 2
 ·subst k2
  repeat (first
   | refine AWp.seq ?_
   | refine thenA_n ?_
   | refine AWp.ret ?_
   | refine AWp.condT rfl cnT ?_
   | (refine rG 7 ?_
      refine qr5t aK ?_
      refine kC ?_
      refine aB ?_)
   | (refine rG 8 ?_
      refine kD ?_
      refine kE ?_
      refine qr11 (AList.litSl tyOk) ?_
      refine AList.appL tyOk rfl rfl rfl rfl rfl rfl rfl rfl rfl rfl oM oM ?_
      refine kD ?_
      refine kI ?_
      refine aB ?_)
   | (refine rG 14 ?_
      refine kF ?_
      refine kI ?_
      refine aB ?_))
  refine ⟨mkSt 55 [(4, .c (.pt 4 3 0 0))] [(4, ⟨false, 1, 3, 47, lF (bpC (odd4X b q 2))⟩)] [4], [(4, ⟨false, 1, 3, 47, lF (bpC (odd4X b q 2))⟩)], Wk.mk [(4, some 4)] rfl rfl rfl ?_ ?_, rfl, rfl, ARets.one (x := .ag _) (ARes.box tyOk rfl rfl rfl rfl rfl rfl rfl)⟩
  ·exact allT
  ·exact ⟨HeapOk.box rfl rfl ⟨LeC.int (by first | rfl | (dsimp only; omega)), LeC.int (by first | rfl | (dsimp only; omega)), (LeC.fz rfl rfl (by rfl) (app_F (n := b.n) (G := bF (fun k => if k < b.n then b.d k else true)) (fun i hi => cell1 (congrArg bC (if_pos (show i < b.n by omega)).symm)) (cell1 (congrArg bC (if_neg (by omega)).symm)) (fun _ _ => cell1 rfl))), trivial⟩ rfl, trivial⟩
 repeat (first
  | refine AWp.seq ?_
  | refine thenA_n ?_
  | refine AWp.condF rfl cnF ?_
  | (refine rG 7 ?_
     refine qr5f aJ ?_
     refine kC ?_
     refine aB ?_))
 by_cases k3 : k = 3
 ·subst k3
  repeat (first
   | refine thenA_n ?_
   | refine AWp.condT rfl cnT ?_
   | (refine rG 9 ?_
      refine qr5t aK ?_
      refine kC ?_
      refine aB ?_))
  refine AWp.weak (S' := mkSt 55 [(4, .c (.pt 4 3 0 0)), (5, .c (.pt 5 3 0 0)), (16, .c (iC ((3 : Nat) : Int)))] [(4, ⟨false, 1, 3, 47, lF [iC 0, iC 0, .p (.slice none 0 0)]⟩), (5, ⟨false, 1, 3, 47, lF (bpC b)⟩)] [4, 5]) (Wk.mk [(4, some 4), (5, some 5)] rfl rfl rfl ?_ ?_) ?_
  ·exact allT
  ·exact ⟨hSm, HeapOk.box rfl rfl ⟨LeC.refl _ rfl, LeC.refl _ rfl, LeC.fz rfl rfl rfl (fun i _ => cell1 ⟨rfl, rfl⟩), trivial⟩ rfl, trivial⟩
  have e2 : (b.n : Int) / 2 = ((b.n / 2 : Nat) : Int) := by omega
  repeat (first
   | refine AWp.seq ?_
   | refine thenA_n ?_
   | refine AWp.ret ?_
   | (refine rG 10 ?_
      refine kD ?_
      refine kE ?_
      refine kD ?_
      refine kE ?_
      refine qr5 (aO tyOk) ?_
      refine qr4w3 AList.quo ?_
      refine AList.cut (l := 0) (h := b.n / 2) tyOk rfl rfl rfl rfl rfl rfl rfl rfl ⟨_, _, rfl, by first | rfl | omega⟩ (by omega) (by omega) ?_
      refine kD ?_
      refine kI ?_
      refine aB ?_)
   | (refine rG 14 ?_
      refine kF ?_
      refine kI ?_
      refine aB ?_))
  refine ⟨mkSt 55 [(4, .c (.pt 4 3 0 0))] [(4, ⟨false, 1, 3, 47, lF (bpC (odd4X b q 3))⟩)] [4], [(4, ⟨false, 1, 3, 47, lF (bpC (odd4X b q 3))⟩)], Wk.mk [(4, some 4)] rfl rfl rfl ?_ ?_, rfl, rfl, ARets.one (x := .ag _) (ARes.box tyOk rfl rfl rfl rfl rfl rfl rfl)⟩
  ·exact allT
  ·exact ⟨HeapOk.box rfl rfl ⟨LeC.int (by first | rfl | (dsimp only; omega)), LeC.int (by first | rfl | (dsimp only; omega)), (LeC.lz (by rfl) (fun _ _ _ _ => by rw [Nat.zero_add]; rfl)), trivial⟩ rfl, trivial⟩
 repeat (first
  | refine AWp.seq ?_
  | refine thenA_n ?_
  | refine AWp.condF rfl cnF ?_
  | (refine rG 9 ?_
     refine qr5f aJ ?_
     refine kC ?_
     refine aB ?_))
 by_cases k4 : k = 4
 ·subst k4
  repeat (first
   | refine AWp.seq ?_
   | refine thenA_n ?_
   | refine AWp.ret ?_
   | refine AWp.condT rfl cnT ?_
   | (refine rG 11 ?_
      refine qr5t aK ?_
      refine kC ?_
      refine aB ?_)
   | (refine rG 12 ?_
      refine kD ?_
      refine kE ?_
      refine qr3w2 AList.neg ?_
      refine kD ?_
      refine kI ?_
      refine aB ?_)
   | (refine rG 13 ?_
      refine kD ?_
      refine kE ?_
      refine qr3 AList.negW ?_
      refine kD ?_
      refine kI ?_
      refine aB ?_)
   | (refine rG 14 ?_
      refine kF ?_
      refine kI ?_
      refine aB ?_))
  refine ⟨mkSt 55 [(4, .c (.pt 4 3 0 0))] [(4, ⟨false, 1, 3, 47, lF (bpC (odd4X b q 4))⟩)] [4], [(4, ⟨false, 1, 3, 47, lF (bpC (odd4X b q 4))⟩)], Wk.mk [(4, some 4)] rfl rfl rfl ?_ ?_, rfl, rfl, ARets.one (x := .ag _) (ARes.box tyOk rfl rfl rfl rfl rfl rfl rfl)⟩
  ·exact allT
  ·exact ⟨HeapOk.box rfl rfl ⟨LeC.int (by first | rfl | (dsimp only; omega)), LeC.int (by first | rfl | (dsimp only; omega)), (LeC.fz rfl rfl (by rfl) (fun _ _ _ _ => ⟨rfl, rfl⟩)), trivial⟩ rfl, trivial⟩
 obtain rfl : k = 5 := by omega
 repeat (first
  | refine AWp.seq ?_
  | refine thenA_n ?_
  | refine AWp.skip ?_
  | refine AWp.ret ?_
  | refine AWp.condF rfl cnF ?_
  | (refine rG 11 ?_
     refine qr5f aJ ?_
     refine kC ?_
     refine aB ?_)
  | (refine rG 14 ?_
     refine kF ?_
     refine kI ?_
     refine aB ?_))
 refine ⟨mkSt 55 [(4, .c (.pt 4 3 0 0))] [(4, ⟨false, 1, 3, 47, lF (bpC (odd4X b q 5))⟩)] [4], [(4, ⟨false, 1, 3, 47, lF (bpC (odd4X b q 5))⟩)], Wk.mk [(4, some 4)] rfl rfl rfl ?_ ?_, rfl, rfl, ARets.one (x := .ag _) (ARes.box tyOk rfl rfl rfl rfl rfl rfl rfl)⟩
 ·exact allT
 ·exact ⟨HeapOk.box rfl rfl ⟨LeC.int (by first | rfl | (dsimp only; omega)), LeC.int (by first | rfl | (dsimp only; omega)), (LeC.fz rfl rfl (by rfl) (fun _ _ _ _ => ⟨rfl, rfl⟩)), trivial⟩ rfl, trivial⟩
abbrev cpNx (p : Pb) (m id : Nat) : List AB := [rdB p.R, chM p.C m id p.C.length, bpB p.F, bgB p.O, bgB p.T, bpB (cpL p.C m p.C.length)]
theorem cpBackB {p : Pb} {m id : Nat} {ni : List Nat} (h : posOf ni id = some 5) : BackB [] ni (cpNw p m) (cpNx p m id) :=
 BackB.same (fun i _ j _ => rowF_imm rdC_imm _ i j) ⟨⟨_, rfl, fun i _ j _ => by
  show BackC [] ni (cpF p.C m 905 i j) (cpF p.C m id i j)
  unfold cpF
  by_cases him : i = m
  ·rw [if_pos him, if_pos him]
   exact .owN 5 id h
  ·rw [if_neg him, if_neg him]
   exact .imm _ rfl⟩, BackB.same (fun i _ j _ => rowF_imm bpC_imm _ i j) (BackB.same (fun i _ j _ => rowF_imm bgC_imm28 _ i j) (BackB.same (fun i _ j _ => rowF_imm bgC_imm28 _ i j) (BackB.same (fun i _ j _ => rowF_imm bpC_imm _ i j) trivial)))⟩
theorem cpBackA {a b c d e f : Nat} (h1 : posOf [a, b, c, d, e, f] a = some 0) (h2 : posOf [a, b, c, d, e, f] b = some 1) (h3 : posOf [a, b, c, d, e, f] c = some 2) (h4 : posOf [a, b, c, d, e, f] d = some 3) (h5 : posOf [a, b, c, d, e, f] e = some 4) : BackA [] [a, b, c, d, e, f] cpRes (.ag [.ow a, .ow b, .ow c, .ow d, .ow e]) :=
 .ag ⟨.owN 0 a h1, .owN 1 b h2, .owN 2 c h3, .owN 3 d h4, .owN 4 e h5, trivial⟩
/-- The own list of choices, frozen. -/
theorem cpFz {h : Nat → Option AB} {ren : List (Nat × Option Nat)} {C : List (List Bp)} {m id : Nat} (hh : h id = some (bpB (cpL C m C.length))) (hr : renNo ren id = true) : ∀ i, i < C.length → ∀ j, j < 1 → LeC h ren (cpF C m id i j) (chF C i j) := fun i hi j _ => by
 unfold cpF
 by_cases him : i = m
 ·rw [if_pos him]
  have e : cpL C m C.length = C.getD i [] := by unfold cpL; rw [if_pos (by omega), him]
  rw [e] at hh
  exact LeC.fz hh hr rfl (fun i _ j _ => ⟨rfl, rowF_imm bpC_imm _ i j⟩)
 ·rw [if_neg him]
  exact LeC.refl _ rfl
theorem cpKeep {h : Nat → Option AB} {ren : List (Nat × Option Nat)} {C : List (List Bp)} {m id : Nat} (hr : assoc ren id = some (some id)) : ∀ i, i < C.length → ∀ j, j < 1 → LeC h ren (cpF C m id i j) (cpF C m id i j) := fun i hi j _ => by
 unfold cpF
 by_cases him : i = m
 ·rw [if_pos him]
  exact LeC.ow _ _ hr
 ·rw [if_neg him]
  exact LeC.refl _ rfl
theorem mem_snoc {α : Type} {L : List α} {x y : α} (h : y ∈ L ++ [x]) : y ∈ L ∨ y = x := by
 rcases List.mem_append.1 h with h | h
 ·exact .inl h
 ·exact .inr (List.mem_singleton.1 h)
theorem mem_set28 {α : Type} {L : List α} {k : Nat} {x y : α} (h : y ∈ L.set k x) : y ∈ L ∨ y = x := List.mem_or_eq_of_mem_set h
theorem fzR {h : Nat → Option AB} {ren : List (Nat × Option Nat)} {id : Nat} {L : List Rd} (hh : h id = some (rdB L)) (hr : renNo ren id = true) : LeC h ren (.ow id) (lsR L) := LeC.fz hh hr rfl (fun i _ j _ => ⟨rfl, rowF_imm rdC_imm _ i j⟩)
theorem fzB {h : Nat → Option AB} {ren : List (Nat × Option Nat)} {id : Nat} {L : List Bp} (hh : h id = some (bpB L)) (hr : renNo ren id = true) : LeC h ren (.ow id) (lsB L) := LeC.fz hh hr rfl (fun i _ j _ => ⟨rfl, rowF_imm bpC_imm _ i j⟩)
theorem fzG {h : Nat → Option AB} {ren : List (Nat × Option Nat)} {id : Nat} {L : List Bg} (hh : h id = some (bgB L)) (hr : renNo ren id = true) : LeC h ren (.ow id) (lsG L) := LeC.fz hh hr rfl (fun i _ j _ => ⟨rfl, rowF_imm bgC_imm28 _ i j⟩)
theorem fzC {h : Nat → Option AB} {ren : List (Nat × Option Nat)} {id : Nat} {C : List (List Bp)} (hh : h id = some (chB C)) (hr : renNo ren id = true) : LeC h ren (.ow id) (lsC C) := LeC.fz hh hr rfl (fun i _ j _ => ⟨rfl, rfl⟩)
theorem rd5_F : ∀ k, k < 5 → ∀ j, j < 2 → zF [Value.int .i64 0, .int .i64 0] k j = rowF rdC rdZ [⟨0, 0⟩, ⟨0, 0⟩, ⟨0, 0⟩, ⟨0, 0⟩, ⟨0, 0⟩] k j ∧ immC (zF [Value.int .i64 0, .int .i64 0] k j) = true := fun k hk j hj => by
 have h1 : k = 0 ∨ k = 1 ∨ k = 2 ∨ k = 3 ∨ k = 4 := by omega
 have h2 : j = 0 ∨ j = 1 := by omega
 rcases h1 with rfl | rfl | rfl | rfl | rfl <;> rcases h2 with rfl | rfl <;> exact ⟨rfl, rfl⟩
theorem bpz_le {h : Nat → Option AB} {ren : List (Nat × Option Nat)} (n : Nat) : ∀ k, k < n → ∀ j, j < 3 → LeC h ren (zF [Value.int .i64 0, .int .i64 0, .slice none 0 0] k j) (rowF bpC bpZ (List.replicate n bpZ) k j) := fun k hk j hj => by
 have e : (List.replicate n bpZ).getD k bpZ = bpZ := by simp [List.getD_eq_getElem?_getD, hk]
 unfold rowF
 rw [e]
 have : j = 0 ∨ j = 1 ∨ j = 2 := by omega
 rcases this with rfl | rfl | rfl
 ·exact LeC.refl _ rfl
 ·exact LeC.refl _ rfl
 ·exact LeC.nils _ _
def odd28X (p : Pb) (q1 q2 : Int) (u : Int) (b r5 r6 : Bp) (n : Nat) : Nat → Pb
 | 0 => ⟨p.R ++ [⟨u, q2⟩], p.C, p.F, p.O, p.T⟩
 | 1 => ⟨[⟨0, 0⟩, ⟨0, 0⟩, ⟨0, 0⟩, ⟨0, 0⟩, ⟨0, 0⟩], p.C, p.F, p.O, p.T⟩
 | 2 => ⟨p.R, p.C, p.F, p.O ++ [bgZ], p.T⟩
 | 3 => ⟨p.R, p.C, p.F, p.O, p.T.take (p.T.length / 2)⟩
 | 4 => ⟨p.R, p.C, p.F ++ [b], p.O, p.T ++ [⟨q1, 0, q2, 0⟩]⟩
 | 5 => ⟨p.R, p.C, p.F.set 0 r5, p.O, p.T⟩
 | 6 => ⟨p.R, if 0 < p.C.length then p.C.set 0 ((cpL p.C 0 p.C.length).set 0 r6) else p.C, p.F, p.O, p.T⟩
 | 7 => ⟨p.R, p.C ++ [List.replicate n bpZ], p.F, p.O ++ [bgZ], p.T⟩
 | _ => ⟨p.R, p.C, p.F, p.O.set 0 ⟨q1, q2, 0, q1⟩, p.T⟩
theorem cpL_mem {C : List (List Bp)} (h : 0 < C.length) : cpL C 0 C.length ∈ C := by
 have hK : cpL C 0 C.length = C.getD 0 [] := by unfold cpL; rw [if_pos h]
 rw [hK]
 exact getD_mem28 h
theorem odd28_bd {B : Nat} {p : Pb} {q1 q2 u : Int} {b r5 r6 : Bp} {n : Nat} (hp : p.bd B) (hB2 : 200 ≤ B) (hu : 0 ≤ u ∧ u < 4) (hb : BpBd (B + 40) b) (h5 : BpBd (B + 1) r5) (h6 : BpBd (B + 1) r6) (hn : n ≤ 35) (k : Nat) : (odd28X p q1 q2 u b r5 r6 n k).bd (B + 40) := by
 have hm0 := hp.mono (show B ≤ B + 40 by omega)
 obtain ⟨hrd, lR, lC, lF', lO, lT, lc, lf⟩ := hp
 match k with
 | 0 => exact ⟨fun r hr => (mem_snoc hr).elim (hrd r) fun e => by subst e; exact ⟨by dsimp only; omega, by dsimp only; omega⟩, by show (p.R ++ _).length ≤ _; simp; omega, hm0.lC, hm0.lF, hm0.lO, hm0.lT, hm0.C, hm0.F⟩
 | 1 => exact ⟨fun r hr => by
     replace hr : r ∈ [(⟨0, 0⟩ : Rd), ⟨0, 0⟩, ⟨0, 0⟩, ⟨0, 0⟩, ⟨0, 0⟩] := hr
     simp at hr
     subst hr
     exact ⟨by decide, by decide⟩, by show 5 ≤ _; omega, hm0.lC, hm0.lF, hm0.lO, hm0.lT, hm0.C, hm0.F⟩
 | 2 => exact ⟨hrd, hm0.lR, hm0.lC, hm0.lF, by show (p.O ++ _).length ≤ _; simp; omega, hm0.lT, hm0.C, hm0.F⟩
 | 3 => exact ⟨hrd, hm0.lR, hm0.lC, hm0.lF, hm0.lO, by show (p.T.take _).length ≤ _; rw [List.length_take]; omega, hm0.C, hm0.F⟩
 | 4 => exact ⟨hrd, hm0.lR, hm0.lC, by show (p.F ++ _).length ≤ _; simp; omega, hm0.lO, by show (p.T ++ _).length ≤ _; simp; omega, hm0.C, fun y hy => (mem_snoc hy).elim (hm0.F y) fun e => by subst e; exact hb⟩
 | 5 => exact ⟨hrd, hm0.lR, hm0.lC, by show (p.F.set _ _).length ≤ _; simp; omega, hm0.lO, hm0.lT, hm0.C, fun y hy => (mem_set28 hy).elim (hm0.F y) fun e => by subst e; exact h5.mono (by omega)⟩
 | 6 =>
   by_cases hC : 0 < p.C.length
   ·have hmem := cpL_mem hC
    refine ⟨hrd, hm0.lR, ?_, hm0.lF, hm0.lO, hm0.lT, fun l hl => ?_, hm0.F⟩
    ·show (if 0 < p.C.length then _ else p.C).length ≤ _
     rw [if_pos hC, List.length_set]; omega
    ·replace hl : l ∈ (if 0 < p.C.length then p.C.set 0 ((cpL p.C 0 p.C.length).set 0 r6) else p.C) := hl
     rw [if_pos hC] at hl
     rcases mem_set28 hl with hl | rfl
     ·exact hm0.C l hl
     ·refine ⟨by rw [List.length_set]; exact (hm0.C _ hmem).1, fun b hb => (mem_set28 hb).elim ((hm0.C _ hmem).2 b) fun e => by subst e; exact h6.mono (by omega)⟩
   ·have e : odd28X p q1 q2 u b r5 r6 n 6 = p := by
     show (⟨p.R, if 0 < p.C.length then _ else p.C, p.F, p.O, p.T⟩ : Pb) = p
     rw [if_neg hC]
    rw [e]
    exact hm0
 | 7 => exact ⟨hrd, hm0.lR, by show (p.C ++ _).length ≤ _; simp; omega, hm0.lF, by show (p.O ++ _).length ≤ _; simp; omega, hm0.lT, fun l hl => (mem_snoc hl).elim (hm0.C l) fun e => by subst e; exact ⟨by simp; omega, fun b hb => by rw [List.eq_of_mem_replicate hb]; exact ⟨by dsimp only; omega, Nat.zero_le _⟩⟩, hm0.F⟩
 | k + 8 => exact ⟨hrd, hm0.lR, hm0.lC, hm0.lF, by show (p.O.set _ _).length ≤ _; simp; omega, hm0.lT, hm0.C, hm0.F⟩
theorem set_nil {α : Type} {L : List α} {k : Nat} {x : α} (h : ¬ k < L.length) : L.set k x = L := List.set_eq_of_length_le (by omega)
set_option maxHeartbeats 4000000 in
set_option maxRecDepth 100000 in
theorem Odd28_A (B : Nat) (p : Pb) (hp : p.bd B) (hB : B ≤ 90000) (hB2 : 200 ≤ B) (q0 q1 q2 : Int) (hq1 : -9223372036854775808 ≤ q1 ∧ q1 ≤ 9223372036854775807) : ∃ x : Pb, x.bd (B + 40) ∧ ACalls Try.prog 11 [.ag (pbC p), .ag [iC q0, iC q1, iC q2]] (.ag (pbC x)) := by
 have hCopy := Copy_G p (hp.ok (by omega)) 0
 have hbd := @odd28_bd B p q1 q2
 have hbd0 := hp
 obtain ⟨hrd, lR, lC, lF', lO, lT, lc, lf⟩ := hp
 have hM := Mod_A q0 9 (by omega) (by omega)
 have h0 := Int.emod_nonneg q0 (show (9 : Int) ≠ 0 by omega)
 have h9 := Int.emod_lt_of_pos q0 (show (0 : Int) < 9 by omega)
 generalize q0 % 9 = c at hM h0 h9
 obtain ⟨k, rfl⟩ := Int.eq_ofNat_of_zero_le h0
 have hM4 := Mod_A q1 4 (by omega) (by omega)
 have h4 := Int.emod_nonneg q1 (show (4 : Int) ≠ 0 by omega)
 have h5 := Int.emod_lt_of_pos q1 (show (0 : Int) < 4 by omega)
 obtain ⟨u, hu⟩ : ∃ u, q1 % 4 = u := ⟨_, rfl⟩
 rw [hu] at hM4 h4 h5
 have hMd := (Made_A 2 (fI [q1, q2]) (by decide)).cv (args' := [.c (litI2 q1 q2)]) ⟨.c (lit2 q1 q2), trivial⟩
 have hmb : BpBd (B + 40) (mdV 2 (fI [q1, q2])) := by
  have hb := md_bd 2 (fI [q1, q2])
  have hn : mdW 2 (fI [q1, q2]) * mdH 2 (fI [q1, q2]) ≤ 16 * 12 := Nat.mul_le_mul hb.1 hb.2
  exact ⟨by unfold mdV; dsimp only; omega, by unfold mdV; dsimp only; omega⟩
 generalize mdV 2 (fI [q1, q2]) = b at hMd hmb
 obtain ⟨r5, hr5, hO5⟩ : ∃ r, BpBd (B + 1) r ∧ (0 < p.F.length → ACalls Try.prog 39 [.ag (bpC (p.F.getD 0 bpZ)), .c (iC q1)] (.ag (bpC r))) := by
  by_cases hF : 0 < p.F.length
  ·obtain ⟨r, h1, h2⟩ := Odd04_A B (p.F.getD 0 bpZ) q1 (lf _ (getD_mem28 hF)) (by omega) hq1
   exact ⟨r, h1, fun _ => h2⟩
  ·exact ⟨bpZ, ⟨by dsimp only; omega, Nat.zero_le _⟩, fun h => absurd h hF⟩
 obtain ⟨r6, hr6, hO6⟩ : ∃ r, BpBd (B + 1) r ∧ (0 < p.C.length → 0 < (cpL p.C 0 p.C.length).length → ACalls Try.prog 39 [.ag (bpC ((cpL p.C 0 p.C.length).getD 0 bpZ)), .c (iC q1)] (.ag (bpC r))) := by
  by_cases hF : 0 < p.C.length ∧ 0 < (cpL p.C 0 p.C.length).length
  ·obtain ⟨r, h1, h2⟩ := Odd04_A B ((cpL p.C 0 p.C.length).getD 0 bpZ) q1 ((lc _ (cpL_mem hF.1)).2 _ (getD_mem28 hF.2)) (by omega) hq1
   exact ⟨r, h1, fun _ _ => h2⟩
  ·exact ⟨bpZ, ⟨by dsimp only; omega, Nat.zero_le _⟩, fun h h' => absurd ⟨h, h'⟩ hF⟩
 have hM7 := Mod_A q1 35 (by omega) (by omega)
 have h35 := Int.emod_lt_of_pos q1 (show (0 : Int) < 35 by omega)
 obtain ⟨n, hn⟩ : ∃ n : Nat, q1 % 35 = n := Int.eq_ofNat_of_zero_le (Int.emod_nonneg q1 (by omega))
 rw [hn] at hM7 h35
 refine ⟨odd28X p q1 q2 u b r5 r6 n k, hbd hbd0 hB2 ⟨h4, h5⟩ hmb hr5 hr6 (by omega) k, ?_⟩
 clear hbd hbd0 hmb hr5 hr6
 refine acalls_at Try.func11 rfl rfl Try.ntmps11 rfl ?_
 repeat (first
  | refine AWp.seq ?_
  | (refine rG 0 ?_
     (iterate 2 refine qr5 aQ ?_)
     refine qr5 (aM tyOk) ?_
     refine aB ?_)
  | (refine rG 1 ?_
     refine kF ?_
     refine AList.callG [] [150, 151, 152, 153, 154, 155] [] [] (cpNw p 0) [] (cpNx p 0 155) rfl rfl FnV.func rfl Try.func27 rfl (by kernel_rfl) (trivial) rfl (cpBackA rfl rfl rfl rfl rfl) (trivial) (cpBackB rfl) (hCopy) ?_
     refine qr5 (aM tyOk) ?_
     refine kI ?_
     refine aB ?_))
 repeat (first
  | refine AWp.seq ?_
  | refine thenA_n ?_
  | refine AWp.block ?_
  | (refine rG 2 ?_
     refine qr8o (aU tyOk) ?_
     refine kE ?_
     refine aH rfl rfl rfl rfl Try.func18 rfl (by kernel_rfl) (hM) ?_
     refine aB ?_))
 refine AWp.weak (S' :=
  mkSt 147 [(3, .c (.pt 3 3 0 0)), (4, .c (.pt 4 5 0 0)), (5, .c (.pt 5 5 0 0)), (10, .c (iC k))] [(3, ⟨false, 1, 3, 23, lF [iC q0, iC q1, iC q2]⟩), (4, ⟨false, 1, 5, 32, lF [nl8, nl8, nl8, nl8, nl8]⟩), (5, ⟨false, 1, 5, 32, lF [.ow 150, .ow 151, .ow 152, .ow 153, .ow 154]⟩), (150, rdB p.R), (151, chM p.C 0 155 p.C.length), (152, bpB p.F), (153, bgB p.O), (154, bgB p.T), (155, bpB (cpL p.C 0 p.C.length)) ] [3, 4, 5, 150, 151, 152, 153, 154, 155]
  ) (Wk.mk [(3, some 3), (4, some 4), (5, some 5), (150, some 150), (151, some 151), (152, some 152), (153, some 153), (154, some 154), (155, some 155)] rfl rfl rfl ?_ ?_) ?_
 ·exact allT
 ·exact ⟨hSm, hSm, HeapOk.box rfl rfl ⟨LeC.ow _ _ rfl, LeC.ow _ _ rfl, LeC.ow _ _ rfl, LeC.ow _ _ rfl, LeC.ow _ _ rfl, trivial⟩ rfl, hrF rdC_imm, .inr ⟨151, p.C.length, _, .inl rfl, rfl, rfl, cpKeep rfl⟩,
  hrF bpC_imm, hrF bgC_imm28, hrF bgC_imm28
  , hrF bpC_imm, trivial⟩
 by_cases k6 : k = 6
 ·subst k6
  by_cases hC : 0 < p.C.length
  ·have hC' : (p.C.length : Int) > 0 := by omega
   by_cases hL : 0 < (cpL p.C 0 p.C.length).length
   ·have hL' : ((cpL p.C 0 p.C.length).length : Int) > 0 := by omega
    have hO := hO6 hC hL
    repeat (first
     | refine AWp.seq ?_
     | refine thenA_n ?_
     | refine AWp.condT rfl cnT ?_
     | refine AWp.condF rfl cnF ?_
     | (refine rG 3 ?_
        refine qr5f aJ ?_
        refine kC ?_
        refine aB ?_)
     | (refine rG 5 ?_
        refine qr5f aJ ?_
        refine kC ?_
        refine aB ?_)
     | (refine rG 7 ?_
        refine qr5f aJ ?_
        refine kC ?_
        refine aB ?_)
     | (refine rG 9 ?_
        refine qr5f aJ ?_
        refine kC ?_
        refine aB ?_)
     | (refine rG 11 ?_
        refine qr5f aJ ?_
        refine kC ?_
        refine aB ?_)
     | (refine rG 14 ?_
        refine qr5f aJ ?_
        refine kC ?_
        refine aB ?_)
     | (refine rG 17 ?_
        refine qr5t aK ?_
        refine kC ?_
        refine aB ?_)
     | (refine rG 18 ?_
        refine kD ?_
        refine kE ?_
        refine qr7 (AList.lenOw tyOk) ?_
        refine qr5t aK ?_
        refine kA ?_
        refine kD ?_
        refine kE ?_
        refine qr10eo (AList.idxOw (k := 0) tyOk) ?_
        refine kE ?_
        refine qr7 (AList.lenOw tyOk) ?_
        refine qr5t aK ?_
        refine qr4 aS ?_
        refine aB ?_)
     | (refine AWp.draw (id := 19) mixed ?_; refine kD ?_; refine kE ?_; refine qr10eo (AList.idxOw (k := 0) tyOk) ?_; refine kE ?_; refine kD ?_; refine kE ?_; refine qr10eo (AList.idxOw (k := 0) tyOk) ?_; refine kE ?_; refine qr10eo (AList.idxOw (k := 0) tyOk) ?_; refine kF ?_; refine qr8o (aU tyOk) ?_; refine kE ?_; refine aH rfl rfl rfl rfl Try.func39 rfl (by kernel_rfl) (hO) ?_; refine qr10eo (AList.idxOw (k := 0) tyOk) ?_; refine kI ?_; refine aB ⟨by kernel_rfl, ?_⟩))
    refine AWp.weak (S' :=
     mkSt 147 [(3, .c (.pt 3 3 0 0)), (4, .c (.pt 4 5 0 0)), (5, .c (.pt 5 5 0 0))] [(3, ⟨false, 1, 3, 23, lF [iC q0, iC q1, iC q2]⟩), (4, ⟨false, 1, 5, 32, lF [nl8, nl8, nl8, nl8, nl8]⟩), (5, ⟨false, 1, 5, 32, lF [.ow 150, .ow 151, .ow 152, .ow 153, .ow 154]⟩), (150, rdB p.R), (151, chB (p.C.set 0 ((cpL p.C 0 p.C.length).set 0 r6))), (152, bpB p.F), (153, bgB p.O), (154, bgB p.T)] [3, 4, 5, 150, 151, 152, 153, 154]
     ) (Wk.mk [(3, some 3), (4, some 4), (5, some 5), (150, some 150), (151, some 151), (152, some 152), (153, some 153), (154, some 154)] rfl rfl rfl ?_ ?_) ?_
    ·exact allT
    ·exact ⟨hSm, hSm, HeapOk.box rfl rfl ⟨LeC.ow _ _ rfl, LeC.ow _ _ rfl, LeC.ow _ _ rfl, LeC.ow _ _ rfl, LeC.ow _ _ rfl, trivial⟩ rfl, hrF rdC_imm, .inr ⟨151, p.C.length, _, .inl rfl, List.length_set, rfl, fun i hi j hj => by
      show LeC _ _ (cpF p.C 0 155 i j) (lsB ((p.C.set 0 _).getD i []))
      unfold cpF
      by_cases hi0 : i = 0
      ·subst hi0
       rw [if_pos rfl, List.getD_eq_getElem?_getD, List.getElem?_set_self hC]
       exact LeC.fz rfl rfl List.length_set (set_row _ bpC_imm hL)
      ·rw [if_neg hi0, List.getD_eq_getElem?_getD (l := p.C.set 0 _), List.getElem?_set_ne (Ne.symm hi0), ← List.getD_eq_getElem?_getD]
       exact LeC.refl _ rfl⟩,
     hrF bpC_imm, hrF bgC_imm28, hrF bgC_imm28
     , trivial⟩
    repeat (first
     | refine thenA_n ?_
     | refine AWp.ret ?_
     | (refine rG 26 ?_
        refine kF ?_
        refine kI ?_
        refine aB ?_))
    refine ⟨mkSt 147 [(4, .c (.pt 4 5 0 0))] [(4, ⟨false, 1, 5, 32, lF (pbC (odd28X p q1 q2 u b r5 r6 n 6))⟩)] [4], [(4, ⟨false, 1, 5, 32, lF (pbC (odd28X p q1 q2 u b r5 r6 n 6))⟩)], Wk.mk [(4, some 4)] rfl rfl rfl ?_ ?_, rfl, rfl, ARets.one (x := .ag _) (ARes.box tyOk rfl rfl rfl rfl rfl rfl rfl)⟩
    ·exact allT
    ·exact ⟨HeapOk.box rfl rfl ⟨
     fzR rfl rfl, (by show LeC _ _ _ (lsC (if 0 < p.C.length then _ else p.C)); rw [if_pos hC]; exact fzC rfl rfl), fzB rfl rfl, fzG rfl rfl, fzG rfl rfl
     , trivial⟩ rfl, trivial⟩
   ·have hL' : ¬ ((cpL p.C 0 p.C.length).length : Int) > 0 := by omega
    have e6 : p.C.set 0 ((cpL p.C 0 p.C.length).set 0 r6) = p.C := by
     have hK : cpL p.C 0 p.C.length = p.C.getD 0 [] := by unfold cpL; rw [if_pos hC]
     rw [show (cpL p.C 0 p.C.length).set 0 r6 = cpL p.C 0 p.C.length from set_nil hL, hK, List.getD_eq_getElem?_getD, List.getElem?_eq_getElem hC]
     exact List.set_getElem_self hC
    repeat (first
     | refine AWp.seq ?_
     | refine thenA_n ?_
     | refine AWp.skip ?_
     | refine AWp.condT rfl cnT ?_
     | refine AWp.condF rfl cnF ?_
     | (refine rG 3 ?_
        refine qr5f aJ ?_
        refine kC ?_
        refine aB ?_)
     | (refine rG 5 ?_
        refine qr5f aJ ?_
        refine kC ?_
        refine aB ?_)
     | (refine rG 7 ?_
        refine qr5f aJ ?_
        refine kC ?_
        refine aB ?_)
     | (refine rG 9 ?_
        refine qr5f aJ ?_
        refine kC ?_
        refine aB ?_)
     | (refine rG 11 ?_
        refine qr5f aJ ?_
        refine kC ?_
        refine aB ?_)
     | (refine rG 14 ?_
        refine qr5f aJ ?_
        refine kC ?_
        refine aB ?_)
     | (refine rG 17 ?_
        refine qr5t aK ?_
        refine kC ?_
        refine aB ?_)
     | (refine rG 18 ?_
        refine kD ?_
        refine kE ?_
        refine qr7 (AList.lenOw tyOk) ?_
        refine qr5t aK ?_
        refine kA ?_
        refine kD ?_
        refine kE ?_
        refine qr10eo (AList.idxOw (k := 0) tyOk) ?_
        refine kE ?_
        refine qr7 (AList.lenOw tyOk) ?_
        refine qr5f aJ ?_
        refine qr4 aS ?_
        refine aB ?_))
    refine AWp.weak (S' :=
     mkSt 147 [(3, .c (.pt 3 3 0 0)), (4, .c (.pt 4 5 0 0)), (5, .c (.pt 5 5 0 0)), (10, .c (iC ((6 : Nat) : Int)))] [(3, ⟨false, 1, 3, 23, lF [iC q0, iC q1, iC q2]⟩), (4, ⟨false, 1, 5, 32, lF [nl8, nl8, nl8, nl8, nl8]⟩), (5, ⟨false, 1, 5, 32, lF [.ow 150, .ow 151, .ow 152, .ow 153, .ow 154]⟩), (150, rdB p.R), (151, chB p.C), (152, bpB p.F), (153, bgB p.O), (154, bgB p.T)] [3, 4, 5, 150, 151, 152, 153, 154]
     ) (Wk.mk [(3, some 3), (4, some 4), (5, some 5), (150, some 150), (151, some 151), (152, some 152), (153, some 153), (154, some 154)] rfl rfl rfl ?_ ?_) ?_
    ·exact allT
    ·exact ⟨hSm, hSm, HeapOk.box rfl rfl ⟨LeC.ow _ _ rfl, LeC.ow _ _ rfl, LeC.ow _ _ rfl, LeC.ow _ _ rfl, LeC.ow _ _ rfl, trivial⟩ rfl, hrF rdC_imm, .inr ⟨151, p.C.length, _, .inl rfl, rfl, rfl, cpFz rfl rfl⟩,
     hrF bpC_imm, hrF bgC_imm28, hrF bgC_imm28
     , trivial⟩
    repeat (first
     | refine thenA_n ?_
     | refine AWp.ret ?_
     | (refine rG 26 ?_
        refine kF ?_
        refine kI ?_
        refine aB ?_))
    refine ⟨mkSt 147 [(4, .c (.pt 4 5 0 0))] [(4, ⟨false, 1, 5, 32, lF (pbC (odd28X p q1 q2 u b r5 r6 n 6))⟩)] [4], [(4, ⟨false, 1, 5, 32, lF (pbC (odd28X p q1 q2 u b r5 r6 n 6))⟩)], Wk.mk [(4, some 4)] rfl rfl rfl ?_ ?_, rfl, rfl, ARets.one (x := .ag _) (ARes.box tyOk rfl rfl rfl rfl rfl rfl rfl)⟩
    ·exact allT
    ·exact ⟨HeapOk.box rfl rfl ⟨
     fzR rfl rfl, (by show LeC _ _ _ (lsC (if 0 < p.C.length then _ else p.C)); rw [if_pos hC, e6]; exact fzC rfl rfl), fzB rfl rfl, fzG rfl rfl, fzG rfl rfl
     , trivial⟩ rfl, trivial⟩
  ·have hC' : ¬ (p.C.length : Int) > 0 := by omega
   repeat (first
    | refine AWp.seq ?_
    | refine thenA_n ?_
    | refine AWp.skip ?_
    | refine AWp.condT rfl cnT ?_
    | refine AWp.condF rfl cnF ?_
    | (refine rG 3 ?_
       refine qr5f aJ ?_
       refine kC ?_
       refine aB ?_)
    | (refine rG 5 ?_
       refine qr5f aJ ?_
       refine kC ?_
       refine aB ?_)
    | (refine rG 7 ?_
       refine qr5f aJ ?_
       refine kC ?_
       refine aB ?_)
    | (refine rG 9 ?_
       refine qr5f aJ ?_
       refine kC ?_
       refine aB ?_)
    | (refine rG 11 ?_
       refine qr5f aJ ?_
       refine kC ?_
       refine aB ?_)
    | (refine rG 14 ?_
       refine qr5f aJ ?_
       refine kC ?_
       refine aB ?_)
    | (refine rG 17 ?_
       refine qr5t aK ?_
       refine kC ?_
       refine aB ?_)
    | (refine rG 18 ?_
       refine kD ?_
       refine kE ?_
       refine qr7 (AList.lenOw tyOk) ?_
       refine qr5f aJ ?_
       refine kA ?_
       (iterate 6 refine qr2 aG ?_)
       refine qr4 aR ?_
       refine aB ?_))
   refine AWp.weak (S' :=
    mkSt 147 [(3, .c (.pt 3 3 0 0)), (4, .c (.pt 4 5 0 0)), (5, .c (.pt 5 5 0 0)), (10, .c (iC ((6 : Nat) : Int)))] [(3, ⟨false, 1, 3, 23, lF [iC q0, iC q1, iC q2]⟩), (4, ⟨false, 1, 5, 32, lF [nl8, nl8, nl8, nl8, nl8]⟩), (5, ⟨false, 1, 5, 32, lF [.ow 150, .ow 151, .ow 152, .ow 153, .ow 154]⟩), (150, rdB p.R), (151, chB p.C), (152, bpB p.F), (153, bgB p.O), (154, bgB p.T)] [3, 4, 5, 150, 151, 152, 153, 154]
    ) (Wk.mk [(3, some 3), (4, some 4), (5, some 5), (150, some 150), (151, some 151), (152, some 152), (153, some 153), (154, some 154)] rfl rfl rfl ?_ ?_) ?_
   ·exact allT
   ·exact ⟨hSm, hSm, HeapOk.box rfl rfl ⟨LeC.ow _ _ rfl, LeC.ow _ _ rfl, LeC.ow _ _ rfl, LeC.ow _ _ rfl, LeC.ow _ _ rfl, trivial⟩ rfl, hrF rdC_imm, .inr ⟨151, p.C.length, _, .inl rfl, rfl, rfl, cpFz rfl rfl⟩,
    hrF bpC_imm, hrF bgC_imm28, hrF bgC_imm28
    , trivial⟩
   repeat (first
    | refine thenA_n ?_
    | refine AWp.ret ?_
    | (refine rG 26 ?_
       refine kF ?_
       refine kI ?_
       refine aB ?_))
   refine ⟨mkSt 147 [(4, .c (.pt 4 5 0 0))] [(4, ⟨false, 1, 5, 32, lF (pbC (odd28X p q1 q2 u b r5 r6 n 6))⟩)] [4], [(4, ⟨false, 1, 5, 32, lF (pbC (odd28X p q1 q2 u b r5 r6 n 6))⟩)], Wk.mk [(4, some 4)] rfl rfl rfl ?_ ?_, rfl, rfl, ARets.one (x := .ag _) (ARes.box tyOk rfl rfl rfl rfl rfl rfl rfl)⟩
   ·exact allT
   ·exact ⟨HeapOk.box rfl rfl ⟨
    fzR rfl rfl, (by show LeC _ _ _ (lsC (if 0 < p.C.length then _ else p.C)); rw [if_neg hC]; exact fzC rfl rfl), fzB rfl rfl, fzG rfl rfl, fzG rfl rfl
    , trivial⟩ rfl, trivial⟩
 refine AWp.weak (S' :=
  mkSt 147 [(3, .c (.pt 3 3 0 0)), (4, .c (.pt 4 5 0 0)), (5, .c (.pt 5 5 0 0)), (10, .c (iC k))] [(3, ⟨false, 1, 3, 23, lF [iC q0, iC q1, iC q2]⟩), (4, ⟨false, 1, 5, 32, lF [nl8, nl8, nl8, nl8, nl8]⟩), (5, ⟨false, 1, 5, 32, lF [.ow 150, .ow 151, .ow 152, .ow 153, .ow 154]⟩), (150, rdB p.R), (151, chB p.C), (152, bpB p.F), (153, bgB p.O), (154, bgB p.T)] [3, 4, 5, 150, 151, 152, 153, 154]
  ) (Wk.mk [(3, some 3), (4, some 4), (5, some 5), (150, some 150), (151, some 151), (152, some 152), (153, some 153), (154, some 154)] rfl rfl rfl ?_ ?_) ?_
 ·exact allT
 ·exact ⟨hSm, hSm, HeapOk.box rfl rfl ⟨LeC.ow _ _ rfl, LeC.ow _ _ rfl, LeC.ow _ _ rfl, LeC.ow _ _ rfl, LeC.ow _ _ rfl, trivial⟩ rfl, hrF rdC_imm, .inr ⟨151, p.C.length, _, .inl rfl, rfl, rfl, cpFz rfl rfl⟩,
  hrF bpC_imm, hrF bgC_imm28, hrF bgC_imm28
  , trivial⟩
 by_cases k0 : k = 0
 ·subst k0
  repeat (first
   | refine AWp.seq ?_
   | refine thenA_n ?_
   | refine AWp.ret ?_
   | refine AWp.condT rfl cnT ?_
   | (refine rG 3 ?_
      refine qr5t aK ?_
      refine kC ?_
      refine aB ?_)
   | (refine AWp.draw (id := 4) mixed ?_; refine kD ?_; refine kE ?_; refine qr8o (aU tyOk) ?_; refine kE ?_; refine aH rfl rfl rfl rfl Try.func18 rfl (by kernel_rfl) (hM4) ?_; refine qr8o (aU tyOk) ?_; refine kE ?_; refine qr8 (aX tyOk) ?_; refine qr11 (AList.litSl tyOk) ?_; refine AList.appL tyOk rfl rfl rfl rfl rfl rfl rfl rfl rfl rfl oM oM ?_; refine kD ?_; refine kI ?_; refine aB ⟨by kernel_rfl, ?_⟩)
   | (refine rG 26 ?_
      refine kF ?_
      refine kI ?_
      refine aB ?_))
  refine ⟨mkSt 147 [(4, .c (.pt 4 5 0 0))] [(4, ⟨false, 1, 5, 32, lF (pbC (odd28X p q1 q2 u b r5 r6 n 0))⟩)] [4], [(4, ⟨false, 1, 5, 32, lF (pbC (odd28X p q1 q2 u b r5 r6 n 0))⟩)], Wk.mk [(4, some 4)] rfl rfl rfl ?_ ?_, rfl, rfl, ARets.one (x := .ag _) (ARes.box tyOk rfl rfl rfl rfl rfl rfl rfl)⟩
  ·exact allT
  ·exact ⟨HeapOk.box rfl rfl ⟨
   LeC.fz rfl rfl List.length_append (row_snoc (c := rdC) (z := rdZ) p.R ⟨u, q2⟩ rdC_imm rfl), fzC rfl rfl, fzB rfl rfl, fzG rfl rfl, fzG rfl rfl
   , trivial⟩ rfl, trivial⟩
 repeat (first
  | refine AWp.seq ?_
  | refine thenA_n ?_
  | refine AWp.condF rfl cnF ?_
  | (refine rG 3 ?_
     refine qr5f aJ ?_
     refine kC ?_
     refine aB ?_))
 by_cases k1 : k = 1
 ·subst k1
  repeat (first
   | refine AWp.seq ?_
   | refine thenA_n ?_
   | refine AWp.ret ?_
   | refine AWp.condT rfl cnT ?_
   | (refine rG 5 ?_
      refine qr5t aK ?_
      refine kC ?_
      refine aB ?_)
   | (refine rG 6 ?_
      refine qr9e2o2 (AList.makeSl (n := 5) tyOk) ?_
      refine kD ?_
      refine kI ?_
      refine aB ?_)
   | (refine rG 26 ?_
      refine kF ?_
      refine kI ?_
      refine aB ?_))
  refine ⟨mkSt 147 [(4, .c (.pt 4 5 0 0))] [(4, ⟨false, 1, 5, 32, lF (pbC (odd28X p q1 q2 u b r5 r6 n 1))⟩)] [4], [(4, ⟨false, 1, 5, 32, lF (pbC (odd28X p q1 q2 u b r5 r6 n 1))⟩)], Wk.mk [(4, some 4)] rfl rfl rfl ?_ ?_, rfl, rfl, ARets.one (x := .ag _) (ARes.box tyOk rfl rfl rfl rfl rfl rfl rfl)⟩
  ·exact allT
  ·exact ⟨HeapOk.box rfl rfl ⟨
   LeC.fz rfl rfl rfl rd5_F, fzC rfl rfl, fzB rfl rfl, fzG rfl rfl, fzG rfl rfl
   , trivial⟩ rfl, trivial⟩
 repeat (first
  | refine AWp.seq ?_
  | refine thenA_n ?_
  | refine AWp.condF rfl cnF ?_
  | (refine rG 5 ?_
     refine qr5f aJ ?_
     refine kC ?_
     refine aB ?_))
 by_cases k2 : k = 2
 ·subst k2
  repeat (first
   | refine AWp.seq ?_
   | refine thenA_n ?_
   | refine AWp.ret ?_
   | refine AWp.condT rfl cnT ?_
   | (refine rG 7 ?_
      refine qr5t aK ?_
      refine kC ?_
      refine aB ?_)
   | (refine rG 8 ?_
      refine kD ?_
      refine kE ?_
      refine qr8 (aX tyOk) ?_
      refine qr11 (AList.litSl tyOk) ?_
      refine AList.appL tyOk rfl rfl rfl rfl rfl rfl rfl rfl rfl rfl oM oM ?_
      refine kD ?_
      refine kI ?_
      refine aB ?_)
   | (refine rG 26 ?_
      refine kF ?_
      refine kI ?_
      refine aB ?_))
  refine ⟨mkSt 147 [(4, .c (.pt 4 5 0 0))] [(4, ⟨false, 1, 5, 32, lF (pbC (odd28X p q1 q2 u b r5 r6 n 2))⟩)] [4], [(4, ⟨false, 1, 5, 32, lF (pbC (odd28X p q1 q2 u b r5 r6 n 2))⟩)], Wk.mk [(4, some 4)] rfl rfl rfl ?_ ?_, rfl, rfl, ARets.one (x := .ag _) (ARes.box tyOk rfl rfl rfl rfl rfl rfl rfl)⟩
  ·exact allT
  ·exact ⟨HeapOk.box rfl rfl ⟨
   fzR rfl rfl, fzC rfl rfl, fzB rfl rfl, LeC.fz rfl rfl List.length_append (row_snoc (c := bgC) (z := bgZ) p.O bgZ bgC_imm28 rfl), fzG rfl rfl
   , trivial⟩ rfl, trivial⟩
 repeat (first
  | refine AWp.seq ?_
  | refine thenA_n ?_
  | refine AWp.condF rfl cnF ?_
  | (refine rG 7 ?_
     refine qr5f aJ ?_
     refine kC ?_
     refine aB ?_))
 by_cases k3 : k = 3
 ·subst k3
  have hlen : (p.T.take (p.T.length / 2)).length = p.T.length / 2 := by rw [List.length_take]; omega
  refine AWp.weak (S' := mkSt 147 [(3, .c (.pt 3 3 0 0)), (4, .c (.pt 4 5 0 0)), (5, .c (.pt 5 5 0 0)), (10, .c (iC ((3 : Nat) : Int)))] [(3, ⟨false, 1, 3, 23, lF [iC q0, iC q1, iC q2]⟩), (4, ⟨false, 1, 5, 32, lF [nl8, nl8, nl8, nl8, nl8]⟩), (5, ⟨false, 1, 5, 32, lF (pbC p)⟩)] [3, 4, 5]) (Wk.mk [(3, some 3), (4, some 4), (5, some 5)] rfl rfl rfl ?_ ?_) ?_
  ·exact allT
  ·exact ⟨hSm, hSm, HeapOk.box rfl rfl ⟨fzR rfl rfl, fzC rfl rfl, fzB rfl rfl, fzG rfl rfl, fzG rfl rfl, trivial⟩ rfl, trivial⟩
  have e2 : (p.T.length : Int) / 2 = ((p.T.length / 2 : Nat) : Int) := by omega
  repeat (first
   | refine AWp.seq ?_
   | refine thenA_n ?_
   | refine AWp.ret ?_
   | refine AWp.condT rfl cnT ?_
   | (refine rG 9 ?_
      refine qr5t aK ?_
      refine kC ?_
      refine aB ?_)
   | (refine rG 10 ?_
      refine kD ?_
      refine kE ?_
      refine kD ?_
      refine kE ?_
      refine qr5 (aO tyOk) ?_
      refine qr4w3 AList.quo ?_
      refine AList.cut (l := 0) (h := p.T.length / 2) tyOk rfl rfl rfl rfl rfl rfl rfl rfl ⟨_, _, rfl, by first | rfl | omega⟩ (by omega) (by omega) ?_
      refine kD ?_
      refine kI ?_
      refine aB ?_)
   | (refine rG 26 ?_
      refine kF ?_
      refine kI ?_
      refine aB ?_))
  refine ⟨mkSt 147 [(4, .c (.pt 4 5 0 0))] [(4, ⟨false, 1, 5, 32, lF (pbC (odd28X p q1 q2 u b r5 r6 n 3))⟩)] [4], [(4, ⟨false, 1, 5, 32, lF (pbC (odd28X p q1 q2 u b r5 r6 n 3))⟩)], Wk.mk [(4, some 4)] rfl rfl rfl ?_ ?_, rfl, rfl, ARets.one (x := .ag _) (ARes.box tyOk rfl rfl rfl rfl rfl rfl rfl)⟩
  ·exact allT
  ·exact ⟨HeapOk.box rfl rfl ⟨
   LeC.refl _ rfl, LeC.refl _ rfl, LeC.refl _ rfl, LeC.refl _ rfl, LeC.lz hlen (fun i hi j hj => by rw [Nat.zero_add]; exact row_take (sz := 4) p.T _ i hi j hj)
   , trivial⟩ rfl, trivial⟩
 repeat (first
  | refine AWp.seq ?_
  | refine thenA_n ?_
  | refine AWp.condF rfl cnF ?_
  | (refine rG 9 ?_
     refine qr5f aJ ?_
     refine kC ?_
     refine aB ?_))
 by_cases k4 : k = 4
 ·subst k4
  repeat (first
   | refine AWp.seq ?_
   | refine thenA_n ?_
   | refine AWp.ret ?_
   | refine AWp.condT rfl cnT ?_
   | (refine rG 11 ?_
      refine qr5t aK ?_
      refine kC ?_
      refine aB ?_)
   | (refine AWp.draw (id := 12) mixed ?_; refine kD ?_; refine kE ?_; refine qr8o (aU tyOk) ?_; refine kE ?_; refine qr8o (aU tyOk) ?_; refine kE ?_; refine qr11 (AList.litSl tyOk) ?_; refine aH rfl rfl rfl rfl Try.func36 rfl (by kernel_rfl) (hMd) ?_; refine qr11 (AList.litSl tyOk) ?_; refine AList.appL tyOk rfl rfl rfl rfl rfl rfl rfl rfl rfl rfl oM oM ?_; refine kD ?_; refine kI ?_; refine aB ⟨by kernel_rfl, ?_⟩)
   | (refine rG 13 ?_
      refine kD ?_
      refine kE ?_
      refine qr8o (aU tyOk) ?_
      refine kE ?_
      refine qr8o (aU tyOk) ?_
      refine kE ?_
      refine qr8 (aX tyOk) ?_
      refine qr11 (AList.litSl tyOk) ?_
      refine AList.appL tyOk rfl rfl rfl rfl rfl rfl rfl rfl rfl rfl oM oM ?_
      refine kD ?_
      refine kI ?_
      refine aB ?_)
   | (refine rG 26 ?_
      refine kF ?_
      refine kI ?_
      refine aB ?_))
  refine ⟨mkSt 147 [(4, .c (.pt 4 5 0 0))] [(4, ⟨false, 1, 5, 32, lF (pbC (odd28X p q1 q2 u b r5 r6 n 4))⟩)] [4], [(4, ⟨false, 1, 5, 32, lF (pbC (odd28X p q1 q2 u b r5 r6 n 4))⟩)], Wk.mk [(4, some 4)] rfl rfl rfl ?_ ?_, rfl, rfl, ARets.one (x := .ag _) (ARes.box tyOk rfl rfl rfl rfl rfl rfl rfl)⟩
  ·exact allT
  ·exact ⟨HeapOk.box rfl rfl ⟨
   fzR rfl rfl, fzC rfl rfl, LeC.fz rfl rfl List.length_append (row_snoc (c := bpC) (z := bpZ) p.F b bpC_imm rfl), fzG rfl rfl, LeC.fz rfl rfl List.length_append (row_snoc (c := bgC) (z := bgZ) p.T ⟨q1, 0, q2, 0⟩ bgC_imm28 rfl)
   , trivial⟩ rfl, trivial⟩
 repeat (first
  | refine AWp.seq ?_
  | refine thenA_n ?_
  | refine AWp.condF rfl cnF ?_
  | (refine rG 11 ?_
     refine qr5f aJ ?_
     refine kC ?_
     refine aB ?_))
 by_cases k5 : k = 5
 ·subst k5
  by_cases hF : 0 < p.F.length
  ·have hF' : (p.F.length : Int) > 0 := by omega
   have hO := hO5 hF
   repeat (first
    | refine AWp.seq ?_
    | refine thenA_n ?_
    | refine AWp.ret ?_
    | refine AWp.condT rfl cnT ?_
    | (refine rG 14 ?_
       refine qr5t aK ?_
       refine kC ?_
       refine aB ?_)
    | (refine rG 15 ?_
       refine kD ?_
       refine kE ?_
       refine qr7 (AList.lenOw tyOk) ?_
       refine qr5t aK ?_
       refine aB ?_)
    | (refine AWp.draw (id := 16) mixed ?_; refine kD ?_; refine kE ?_; refine kD ?_; refine kE ?_; refine qr10eo (AList.idxOw (k := 0) tyOk) ?_; refine kF ?_; refine qr8o (aU tyOk) ?_; refine kE ?_; refine aH rfl rfl rfl rfl Try.func39 rfl (by kernel_rfl) (hO) ?_; refine qr10eo (AList.idxOw (k := 0) tyOk) ?_; refine kI ?_; refine aB ⟨by kernel_rfl, ?_⟩)
    | (refine rG 26 ?_
       refine kF ?_
       refine kI ?_
       refine aB ?_))
   refine ⟨mkSt 147 [(4, .c (.pt 4 5 0 0))] [(4, ⟨false, 1, 5, 32, lF (pbC (odd28X p q1 q2 u b r5 r6 n 5))⟩)] [4], [(4, ⟨false, 1, 5, 32, lF (pbC (odd28X p q1 q2 u b r5 r6 n 5))⟩)], Wk.mk [(4, some 4)] rfl rfl rfl ?_ ?_, rfl, rfl, ARets.one (x := .ag _) (ARes.box tyOk rfl rfl rfl rfl rfl rfl rfl)⟩
   ·exact allT
   ·exact ⟨HeapOk.box rfl rfl ⟨
    fzR rfl rfl, fzC rfl rfl, LeC.fz rfl rfl List.length_set (set_row (c := bpC) (z := bpZ) (e := r5) p.F bpC_imm hF), fzG rfl rfl, fzG rfl rfl
    , trivial⟩ rfl, trivial⟩
  ·have hF' : ¬ (p.F.length : Int) > 0 := by omega
   repeat (first
    | refine AWp.seq ?_
    | refine thenA_n ?_
    | refine AWp.skip ?_
    | refine AWp.ret ?_
    | refine AWp.condT rfl cnT ?_
    | refine AWp.condF rfl cnF ?_
    | (refine rG 14 ?_
       refine qr5t aK ?_
       refine kC ?_
       refine aB ?_)
    | (refine rG 15 ?_
       refine kD ?_
       refine kE ?_
       refine qr7 (AList.lenOw tyOk) ?_
       refine qr5f aJ ?_
       refine aB ?_)
    | (refine rG 26 ?_
       refine kF ?_
       refine kI ?_
       refine aB ?_))
   refine ⟨mkSt 147 [(4, .c (.pt 4 5 0 0))] [(4, ⟨false, 1, 5, 32, lF (pbC (odd28X p q1 q2 u b r5 r6 n 5))⟩)] [4], [(4, ⟨false, 1, 5, 32, lF (pbC (odd28X p q1 q2 u b r5 r6 n 5))⟩)], Wk.mk [(4, some 4)] rfl rfl rfl ?_ ?_, rfl, rfl, ARets.one (x := .ag _) (ARes.box tyOk rfl rfl rfl rfl rfl rfl rfl)⟩
   ·exact allT
   ·exact ⟨HeapOk.box rfl rfl ⟨
    fzR rfl rfl, fzC rfl rfl, (by show LeC _ _ _ (lsB (p.F.set 0 r5)); rw [set_nil hF]; exact fzB rfl rfl), fzG rfl rfl, fzG rfl rfl
    , trivial⟩ rfl, trivial⟩
 repeat (first
  | refine AWp.seq ?_
  | refine thenA_n ?_
  | refine AWp.condF rfl cnF ?_
  | (refine rG 14 ?_
     refine qr5f aJ ?_
     refine kC ?_
     refine aB ?_)
  | (refine rG 17 ?_
     refine qr5f aJ ?_
     refine kC ?_
     refine aB ?_))
 by_cases k7 : k = 7
 ·subst k7
  repeat (first
   | refine AWp.seq ?_
   | refine thenA_n ?_
   | refine AWp.condT rfl cnT ?_
   | (refine rG 20 ?_
      refine qr5t aK ?_
      refine kC ?_
      refine aB ?_)
   | (refine AWp.draw (id := 21) mixed ?_; refine kD ?_; refine kE ?_; refine qr8o (aU tyOk) ?_; refine kE ?_; refine aH rfl rfl rfl rfl Try.func18 rfl (by kernel_rfl) (hM7) ?_; refine qr9e2o2 (AList.makeSl (n := n) tyOk) ?_; refine qr11 (AList.litOw tyOk) ?_; refine AList.appO tyOk rfl rfl rfl rfl rfl rfl rfl rfl rfl rfl rfl oM oM ?_; refine kD ?_; refine kI ?_; refine aB ⟨by kernel_rfl, ?_⟩)
   | (refine rG 22 ?_
      refine kD ?_
      refine kE ?_
      refine qr8 (aX tyOk) ?_
      refine qr11 (AList.litSl tyOk) ?_
      refine AList.appL tyOk rfl rfl rfl rfl rfl rfl rfl rfl rfl rfl oM oM ?_
      refine kD ?_
      refine kI ?_
      refine aB ?_))
  refine AWp.weak (S' := mkSt 147 [(4, .c (.pt 4 5 0 0)), (5, .c (.pt 5 5 0 0))] [(4, ⟨false, 1, 5, 32, lF [nl8, nl8, nl8, nl8, nl8]⟩), (5, ⟨false, 1, 5, 32, lF [.ow 150, .ow 151, .ow 152, .ow 153, .ow 154]⟩), (150, rdB p.R), (151, chM (p.C ++ [List.replicate n bpZ]) p.C.length 155 (p.C.length + 1)), (152, bpB p.F), (153, bgB (p.O ++ [bgZ])), (154, bgB p.T), (155, bpB (List.replicate n bpZ))] [4, 5, 150, 151, 152, 153, 154, 155]) (Wk.mk [(4, some 4), (5, some 5), (150, some 150), (151, some 122), (152, some 152), (153, some 128), (154, some 154), (155, some 120)] rfl rfl rfl ?_ ?_) ?_
  ·exact allT
  ·exact ⟨hSm, HeapOk.box rfl rfl ⟨LeC.ow _ _ rfl, LeC.ow _ _ rfl, LeC.ow _ _ rfl, LeC.ow _ _ rfl, LeC.ow _ _ rfl, trivial⟩ rfl, hrF rdC_imm, .inr ⟨122, p.C.length + 1, _, .inl rfl, rfl, rfl, fun i hi j hj => by
    obtain rfl : j = 0 := Nat.lt_one_iff.mp hj
    show LeC _ _ _ (cpF (p.C ++ [List.replicate n bpZ]) p.C.length 155 i 0)
    unfold cpF
    by_cases hil : i < p.C.length
    ·rw [if_neg (by omega), appF_lo hil]
     refine LeC.eq ?_ rfl
     show lsB (p.C.getD i []) = lsB ((p.C ++ [List.replicate n bpZ]).getD i [])
     rw [List.getD_eq_getElem?_getD (l := p.C ++ _), List.getElem?_append_left hil, ← List.getD_eq_getElem?_getD]
    ·obtain rfl : i = p.C.length := by omega
     rw [if_pos rfl, appF_hi (Nat.le_refl _), Nat.sub_self]
     exact LeC.ow _ _ rfl⟩, hrF bpC_imm, HeapOk.row rfl rfl List.length_append (row_snoc p.O bgZ bgC_imm28 rfl), hrF bgC_imm28, .inr ⟨120, n, _, .inl rfl, List.length_replicate, rfl, bpz_le n⟩, trivial⟩
  have hcl : cpL (p.C ++ [List.replicate n bpZ]) p.C.length (p.C ++ [List.replicate n bpZ]).length = List.replicate n bpZ := by
   unfold cpL
   rw [if_pos (by simp), List.getD_eq_getElem?_getD, List.getElem?_append_right (Nat.le_refl _), Nat.sub_self]
   rfl
  refine AWp.weak (S' := mkSt 147 [(4, .c (.pt 4 5 0 0)), (5, .c (.pt 5 5 0 0))] [(4, ⟨false, 1, 5, 32, lF [nl8, nl8, nl8, nl8, nl8]⟩), (5, ⟨false, 1, 5, 32, lF [.ow 150, .ow 151, .ow 152, .ow 153, .ow 154]⟩), (150, rdB p.R), (151, chB (p.C ++ [List.replicate n bpZ])), (152, bpB p.F), (153, bgB (p.O ++ [bgZ])), (154, bgB p.T)] [4, 5, 150, 151, 152, 153, 154]) (Wk.mk [(4, some 4), (5, some 5), (150, some 150), (151, some 151), (152, some 152), (153, some 153), (154, some 154)] rfl rfl rfl ?_ ?_) ?_
  ·exact allT
  ·exact ⟨hSm, HeapOk.box rfl rfl ⟨LeC.ow _ _ rfl, LeC.ow _ _ rfl, LeC.ow _ _ rfl, LeC.ow _ _ rfl, LeC.ow _ _ rfl, trivial⟩ rfl, hrF rdC_imm, .inr ⟨151, p.C.length + 1, _, .inl rfl, by simp, rfl, fun i hi j hj => cpFz (C := p.C ++ [List.replicate n bpZ]) (by rw [hcl]; rfl) rfl i (by simp; omega) j hj⟩, hrF bpC_imm, hrF bgC_imm28, hrF bgC_imm28, trivial⟩
  repeat (first
   | refine thenA_n ?_
   | refine AWp.ret ?_
   | (refine rG 26 ?_
      refine kF ?_
      refine kI ?_
      refine aB ?_))
  refine ⟨mkSt 147 [(4, .c (.pt 4 5 0 0))] [(4, ⟨false, 1, 5, 32, lF (pbC (odd28X p q1 q2 u b r5 r6 n 7))⟩)] [4], [(4, ⟨false, 1, 5, 32, lF (pbC (odd28X p q1 q2 u b r5 r6 n 7))⟩)], Wk.mk [(4, some 4)] rfl rfl rfl ?_ ?_, rfl, rfl, ARets.one (x := .ag _) (ARes.box tyOk rfl rfl rfl rfl rfl rfl rfl)⟩
  ·exact allT
  ·exact ⟨HeapOk.box rfl rfl ⟨
   fzR rfl rfl, fzC rfl rfl, fzB rfl rfl, fzG rfl rfl, fzG rfl rfl
   , trivial⟩ rfl, trivial⟩
 obtain rfl : k = 8 := by omega
 by_cases hF : 0 < p.O.length
 ·have hF' : (p.O.length : Int) > 0 := by omega
  repeat (first
   | refine AWp.seq ?_
   | refine thenA_n ?_
   | refine AWp.ret ?_
   | refine AWp.condT rfl cnT ?_
   | refine AWp.condF rfl cnF ?_
   | (refine rG 20 ?_
      refine qr5f aJ ?_
      refine kC ?_
      refine aB ?_)
   | (refine rG 23 ?_
      refine qr5t aK ?_
      refine kC ?_
      refine aB ?_)
   | (refine rG 24 ?_
      refine kD ?_
      refine kE ?_
      refine qr7 (AList.lenOw tyOk) ?_
      refine qr5t aK ?_
      refine aB ?_)
   | (refine rG 25 ?_
      refine kD ?_
      refine kE ?_
      refine qr8o (aU tyOk) ?_
      refine kE ?_
      refine qr8o (aU tyOk) ?_
      refine kE ?_
      refine qr8o (aU tyOk) ?_
      refine kE ?_
      refine qr8 (aX tyOk) ?_
      refine qr10eo (AList.idxOw (k := 0) tyOk) ?_
      refine kI ?_
      refine aB ?_)
   | (refine rG 26 ?_
      refine kF ?_
      refine kI ?_
      refine aB ?_))
  refine ⟨mkSt 147 [(4, .c (.pt 4 5 0 0))] [(4, ⟨false, 1, 5, 32, lF (pbC (odd28X p q1 q2 u b r5 r6 n 8))⟩)] [4], [(4, ⟨false, 1, 5, 32, lF (pbC (odd28X p q1 q2 u b r5 r6 n 8))⟩)], Wk.mk [(4, some 4)] rfl rfl rfl ?_ ?_, rfl, rfl, ARets.one (x := .ag _) (ARes.box tyOk rfl rfl rfl rfl rfl rfl rfl)⟩
  ·exact allT
  ·exact ⟨HeapOk.box rfl rfl ⟨
   fzR rfl rfl, fzC rfl rfl, fzB rfl rfl, LeC.fz rfl rfl List.length_set (set_row (c := bgC) (z := bgZ) (sz := 4) (e := (⟨q1, q2, 0, q1⟩ : Bg)) p.O bgC_imm28 hF), fzG rfl rfl
   , trivial⟩ rfl, trivial⟩
 ·have hF' : ¬ (p.O.length : Int) > 0 := by omega
  repeat (first
   | refine AWp.seq ?_
   | refine thenA_n ?_
   | refine AWp.skip ?_
   | refine AWp.ret ?_
   | refine AWp.condT rfl cnT ?_
   | refine AWp.condF rfl cnF ?_
   | (refine rG 20 ?_
      refine qr5f aJ ?_
      refine kC ?_
      refine aB ?_)
   | (refine rG 23 ?_
      refine qr5t aK ?_
      refine kC ?_
      refine aB ?_)
   | (refine rG 24 ?_
      refine kD ?_
      refine kE ?_
      refine qr7 (AList.lenOw tyOk) ?_
      refine qr5f aJ ?_
      refine aB ?_)
   | (refine rG 26 ?_
      refine kF ?_
      refine kI ?_
      refine aB ?_))
  refine ⟨mkSt 147 [(4, .c (.pt 4 5 0 0))] [(4, ⟨false, 1, 5, 32, lF (pbC (odd28X p q1 q2 u b r5 r6 n 8))⟩)] [4], [(4, ⟨false, 1, 5, 32, lF (pbC (odd28X p q1 q2 u b r5 r6 n 8))⟩)], Wk.mk [(4, some 4)] rfl rfl rfl ?_ ?_, rfl, rfl, ARets.one (x := .ag _) (ARes.box tyOk rfl rfl rfl rfl rfl rfl rfl)⟩
  ·exact allT
  ·exact ⟨HeapOk.box rfl rfl ⟨
   fzR rfl rfl, fzC rfl rfl, fzB rfl rfl, (by show LeC _ _ _ (lsG (p.O.set 0 _)); rw [set_nil hF]; exact fzG rfl rfl), fzG rfl rfl
   , trivial⟩ rfl, trivial⟩
end Go.Proofs.Ytjjaehpkccejaaa
end

section
namespace Go.Proofs.Ytjjaehpkccejaaa
open Go.RowKit Go.Flow Go.AV Go.Plain
theorem sm_bd {p : Pb} (h : Sm p) : p.bd 200 := by
 obtain ⟨hR, hr, hC, hc, hF, hf, hO, hT⟩ := h
 have h65 : ∀ b : Bp, (∃ d, b = bp65 d) → BpBd 200 b := fun b ⟨d, e⟩ => by subst e; exact ⟨(by decide : -((200 : Nat) : Int) ≤ 6 ∧ (6 : Int) ≤ ((200 : Nat) : Int)), (by decide : 30 ≤ 200)⟩
 exact ⟨fun r h => (hr r h).2, by omega, by omega, by omega, by omega, by omega, fun l hl => ⟨by have := (hc l hl).1; omega, fun b hb => h65 b ((hc l hl).2 b hb)⟩, fun b hb => h65 b (hf b hb)⟩
abbrev pbZ : Pb := ⟨[], [], [], [], []⟩
theorem pbZ_ok : pbZ.ok := ⟨rd_nil, by decide, by decide, by decide, by decide, by decide, fun _ h => by cases h⟩
end Go.Proofs.Ytjjaehpkccejaaa
end
