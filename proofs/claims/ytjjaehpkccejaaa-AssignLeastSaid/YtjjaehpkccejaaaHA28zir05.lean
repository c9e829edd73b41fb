/- Parts of the proof: A28a, A28f, A28v. -/
import Derived.Test.YtjjaehpkccejaaaG27
import Derived.Test.YtjjaehpkccejaaaG24
import Derived.Test.YtjjaehpkccejaaaG18
import Derived.Test.YtjjaehpkccejaaaHA28zir01
import Derived.Test.YtjjaehpkccejaaaG13
import Derived.Test.YtjjaehpkccejaaaG26
import Derived.Laws.Pointers
import Derived.Test.YtjjaehpkccejaaaG17
import Derived.WalkKit
import Derived.Test.YtjjaehpkccejaaaG25
import Derived.WideKeyMaps
import Derived.MapKept
import Derived.Carry
import Derived.Test.YtjjaehpkccejaaaG16
import Derived.Test.YtjjaehpkccejaaaG08
import Derived.Test.YtjjaehpkccejaaaG10
import Derived.Test.YtjjaehpkccejaaaG07
import Derived.Shelf.Abstract
import Derived.Test.YtjjaehpkccejaaaG14
import Derived.Test.YtjjaehpkccejaaaG15
import Derived.Laws.Cover3
import Derived.Test.YtjjaehpkccejaaaG12
import Derived.Test.YtjjaehpkccejaaaProg
import Derived.Test.YtjjaehpkccejaaaG09
import Derived.RangeFuncNested
import Derived.Test.YtjjaehpkccejaaaG01
import Derived.Test.YtjjaehpkccejaaaG06
import Derived.Laws.StructEq
import Derived.Test.YtjjaehpkccejaaaG11
import Derived.Lib.Hide
import Derived.Deep.QuietTactic
import Derived.BigQuiet
import Derived.Deep.DrawnRows
import Derived.Deep.AppendLies
import Derived.Maps.AppendAt
import Derived.OwnWalk
import Derived.StillTail
import Derived.Below
import Derived.Deep.Draws
import Derived.KernelRfl
import Derived.Test.YtjjaehpkccejaaaG05
import Derived.Test.YtjjaehpkccejaaaG04
import Derived.Great.BuildSlice
import Derived.Test.YtjjaehpkccejaaaG03
import Derived.Test.YtjjaehpkccejaaaG02
import Derived.RangeFuncLeaves
import Derived.RangeFuncRecord
import Derived.OrdersIn
import Derived.TacticsIn
import Derived.RangeFuncCalls
import Derived.Test.YtjjaehpkccejaaaG29
import Derived.Test.YtjjaehpkccejaaaG28
import Derived.Test.YtjjaehpkccejaaaG19
import Derived.Scope
import Derived.Test.YtjjaehpkccejaaaG21
import Derived.Test.YtjjaehpkccejaaaHA28zir02
import Derived.Test.YtjjaehpkccejaaaG32
import Derived.Test.YtjjaehpkccejaaaG22
import Derived.Test.YtjjaehpkccejaaaHA28zir03
import Derived.Test.YtjjaehpkccejaaaG31
import Derived.Test.YtjjaehpkccejaaaG20
import Derived.Test.YtjjaehpkccejaaaG30
import Derived.DeepKeys4
set_option linter.unusedSimpArgs false
set_option linter.unusedVariables false
section
namespace Go.Proofs.Ytjjaehpkccejaaa
open Go.RowKit Go.Flow Go.AV Go.Plain
set_option maxRecDepth 100000 in
theorem side21_A (bl sh : Int) (hb : -1000000 ≤ bl ∧ bl ≤ 1000000) : ACalls Try.prog 59 [.ag [iC bl, iC sh]] (.c (iC (2 * bl + 1))) := by
 refine acalls_at Try.func59 rfl rfl Try.ntmps59 rfl ?_
 repeat (first
  | refine AWp.seq ?_
  | refine thenA_n ?_
  | refine AWp.ret ?_
  | (refine aY (id := 0) ?_
     refine qr5 aQ ?_
     refine qr3 aC ?_
     refine aB ?_)
  | (refine aY (id := 1) ?_
     refine qr7 (aD tyOk) ?_
     refine qr7o2 (aE tyOk) ?_
     refine qr4w2 AList.mul ?_
     refine qr4w2 aL ?_
     refine qr3 aC ?_
     refine aB ?_))
 refine ⟨mkSt 7 [(2, .c (iC (2 * bl + 1)))] [] [], [], Wk.mk [] rfl rfl rfl ?_ trivial, rfl, rfl, ARets.one (x := .c _) (ARes.tmp rfl rfl)⟩
 exact allT
end Go.Proofs.Ytjjaehpkccejaaa
end

section
namespace Go.Proofs.Ytjjaehpkccejaaa
open Go.RowKit Go.Flow Go.AV Go.Plain
theorem rdC_imm (r : Rd) : (rdC r).all immC = true := rfl
end Go.Proofs.Ytjjaehpkccejaaa
end

section
namespace Go.Proofs.Ytjjaehpkccejaaa
open Go.RowKit Go.Flow Go.AV Go.Plain
set_option maxHeartbeats 1000000 in
set_option maxRecDepth 100000 in
theorem md21_A (bl sh : Int) : ACalls Try.prog 33 [.c (iC bl), .c (iC sh)] (.ag (rdC (md21 bl sh))) := by
 unfold md21
 have hM := Mod_A bl 3 (by omega) (by omega)
 have h0 := Int.emod_nonneg bl (show (3 : Int) ≠ 0 by omega)
 have h3 := Int.emod_lt_of_pos bl (show (0 : Int) < 3 by omega)
 generalize bl % 3 = c at *
 have hS := side21_A c 0 (by omega)
 have hpos : 0 < (2 * c + 1) * (2 * c + 1) ∧ (2 * c + 1) * (2 * c + 1) ≤ 25 := by
  have : c = 0 ∨ c = 1 ∨ c = 2 := by omega
  rcases this with rfl | rfl | rfl <;> decide
 have hM2 := Mod_A sh ((2 * c + 1) * (2 * c + 1)) (by omega) (by omega)
 have h4 := Int.emod_nonneg sh (show (2 * c + 1) * (2 * c + 1) ≠ 0 by omega)
 have h5 := Int.emod_lt_of_pos sh (show (0 : Int) < (2 * c + 1) * (2 * c + 1) by omega)
 generalize hs : 2 * c + 1 = s at *
 generalize sh % (s * s) = v at *
 refine acalls_at Try.func33 rfl rfl Try.ntmps33 rfl ?_
 repeat (first
  | refine AWp.seq ?_
  | refine thenA_n ?_
  | refine AWp.ret ?_
  | (refine aY (id := 0) ?_
     refine qr5 (aM tyOk) ?_
     refine aB ?_)
  | (refine aY (id := 1) ?_
     refine qr3 aA ?_
     refine aH rfl rfl rfl rfl Try.func18 rfl (by kernel_rfl) (hM) ?_
     refine qr8 (aX tyOk) ?_
     refine qr5 (aM tyOk) ?_
     refine qr8o2 (aI tyOk) ?_
     refine aB ?_)
  | (refine AWp.draw (id := 2) mixed ?_; refine qr3 aA ?_; refine qr7o2 (aF tyOk) ?_; refine aH rfl rfl rfl rfl Try.func59 rfl (by kernel_rfl) (hS) ?_; refine qr7o2 (aF tyOk) ?_; refine aH rfl rfl rfl rfl Try.func59 rfl (by kernel_rfl) (hS) ?_; refine qr4w2 AList.mul ?_; refine aH rfl rfl rfl rfl Try.func18 rfl (by kernel_rfl) (hM2) ?_; refine qr4w2 aL ?_; refine qr7 (aD tyOk) ?_; refine qr8o2 (aI tyOk) ?_; refine aB ⟨by kernel_rfl, ?_⟩)
  | (refine aY (id := 3) ?_
     refine qr7o2 (aF tyOk) ?_
     refine qr8o2 (aI tyOk) ?_
     refine aB ?_))
 refine ⟨mkSt 19 [(4, .c (.pt 4 2 0 0))] [(4, ⟨false, 1, 2, 65, lF (rdC ⟨c, 1 + v⟩)⟩)] [4], [(4, ⟨false, 1, 2, 65, lF (rdC ⟨c, 1 + v⟩)⟩)], Wk.mk [(4, some 4)] rfl rfl rfl ?_ ?_, rfl, rfl, ARets.one (x := .ag _) (ARes.box tyOk rfl rfl rfl rfl rfl rfl rfl)⟩
 ·exact allT
 ·exact allH
def pasK (d : Nat → Bool) (W H : Int) (e : Nat → Bool) (k p : Nat) : Bool := if p < k then pasD d W H e p else false
theorem pasK_new {d : Nat → Bool} {W H : Int} {e : Nat → Bool} {i j : Nat} (hi : i < 6) : pasK d W H e (j * 6 + i + 1) (j * 6 + i) = (hasB 6 5 d i j || hasB W H e ((i : Int) - 0) ((j : Int) - 0)) := by
 unfold pasK pasD
 rw [if_pos (by omega), show (j * 6 + i) % 6 = i by omega, show (j * 6 + i) / 6 = j by omega]
theorem pasK_old {d : Nat → Bool} {W H : Int} {e : Nat → Bool} {k p : Nat} (h : ¬ p = k) : pasK d W H e (k + 1) p = pasK d W H e k p := by
 unfold pasK
 by_cases h1 : p < k
 ·rw [if_pos h1, if_pos (by omega)]
 ·rw [if_neg h1, if_neg (by omega)]
set_option maxHeartbeats 2000000 in
set_option maxRecDepth 100000 in
theorem Paste_A (d : Nat → Bool) (W H : Int) (n : Nat) (e : Nat → Bool) (hb : chk W H n = 0) : ACalls Try.prog 37 [.ag (bmpV 6 5 30 d), .ag (bmpV W H n e), .c (iC 0), .c (iC 0)] (.ag (bmpV 6 5 30 (pasD d W H e))) := by
 have hN := New_T 6 5 30 (by omega) (by omega) rfl (by omega)
 have ha : chk 6 5 30 = 0 := by decide
 have hC := rbCheck_A 6 5 30 d
 rw [ha] at hC
 refine acalls_at Try.func37 rfl rfl Try.ntmps37 rfl ?_
 repeat (first
  | refine AWp.seq ?_
  | refine thenA_n ?_
  | refine AWp.block ?_
  | refine AWp.skip ?_
  | refine AWp.condF rfl cnF ?_
  | (refine aY (id := 0) ?_
     (iterate 2 refine qr5 aQ ?_)
     refine qr5 (aM tyOk) ?_
     refine aB ?_)
  | (refine aY (id := 1) ?_
     refine qr7 (aD tyOk) ?_
     refine qr7o2 (aE tyOk) ?_
     refine qr7 (aD tyOk) ?_
     refine qr7o2 (aE tyOk) ?_
     refine AList.callT rfl rfl rfl rfl rfl Try.func34 rfl (by kernel_rfl) (hN) (fun _ _ _ _ => rfl) ?_
     refine qr3 aA ?_
     (iterate 2 refine qr4 aN ?_)
     refine qr5 (aM tyOk) ?_
     refine qr8o2 (aI tyOk) ?_
     refine qr3 aC ?_
     refine aB ?_)
  | (refine aY (id := 2) ?_
     refine qr3 aA ?_
     refine qr5 aW ?_
     refine qr3 aA ?_
     refine qr7o2 (aF tyOk) ?_
     refine aH rfl rfl rfl rfl Try.func44 rfl (by kernel_rfl) (hC) ?_
     refine qr5 aW ?_
     refine qr4 aR ?_
     refine aB ?_)
  | (refine aY (id := 4) ?_
     refine qr3 aC ?_
     refine aB ?_))
 refine AWp.round (fun j : Nat =>
  mkSt 65 [(4, .c (.pt 4 3 0 0)), (5, .c (.pt 5 3 0 0)), (8, .c (.pt 8 3 0 0)), (9, .c (.pt 9 3 0 0)), (2, .c (iC 0)), (3, .c (iC 0)), (11, .c (iC (j : Nat)))] [(4, ⟨false, 1, 3, 47, lF (bmpV 6 5 30 d)⟩), (5, ⟨false, 1, 3, 47, lF (bmpV W H n e)⟩), (8, ⟨false, 1, 3, 47, lF [iC 0, iC 0, .p (.slice none 0 0)]⟩), (9, ⟨false, 1, 3, 47, lF [iC 6, iC 5, .ow 20]⟩), (20, rowBl 30 (pasK d W H e (j * 6)))] [4, 5, 8, 9, 20]
  ) (fun j => j ≤ 5) (fun j => 5 - j) 0 (Nat.zero_le _) ?_ (fun j hj => ?_)
 ·refine Wk.mk [(4, some 4), (5, some 5), (8, some 8), (9, some 9), (20, some 18)] rfl rfl rfl ?_ ?_
  ·exact allT
  ·exact ⟨HeapOk.same rfl rfl rfl rfl, HeapOk.same rfl rfl rfl rfl, HeapOk.same rfl rfl rfl rfl, HeapOk.box rfl rfl ⟨LeC.int rfl, LeC.int rfl, LeC.ow _ _ rfl, trivial⟩ rfl, HeapOk.row rfl rfl rfl (fun i _ => cell1 ⟨rfl, rfl⟩), trivial⟩
 by_cases hjl : j < 5
 ·have hjl' : (j : Int) < 5 := by omega
  repeat (first
   | refine AWp.seq ?_
   | refine thenA_n ?_
   | refine AWp.block ?_
   | refine AWp.skip ?_
   | refine AWp.condT rfl cnT ?_
   | (refine aY (id := 5) ?_
      refine qr3 aA ?_
      refine qr7 (aD tyOk) ?_
      refine qr7o2 (aE tyOk) ?_
      refine qr5t aK ?_
      refine aB ?_)
   | (refine aY (id := 7) ?_
      refine qr3 aC ?_
      refine aB ?_))
  refine AWp.round (fun i : Nat =>
   mkSt 65 [(4, .c (.pt 4 3 0 0)), (5, .c (.pt 5 3 0 0)), (8, .c (.pt 8 3 0 0)), (9, .c (.pt 9 3 0 0)), (2, .c (iC 0)), (3, .c (iC 0)), (11, .c (iC j)), (12, .c (iC (i : Nat)))] [(4, ⟨false, 1, 3, 47, lF (bmpV 6 5 30 d)⟩), (5, ⟨false, 1, 3, 47, lF (bmpV W H n e)⟩), (8, ⟨false, 1, 3, 47, lF [iC 0, iC 0, .p (.slice none 0 0)]⟩), (9, ⟨false, 1, 3, 47, lF [iC 6, iC 5, .ow 20]⟩), (20, rowBl 30 (pasK d W H e (j * 6 + i)))] [4, 5, 8, 9, 20]
   ) (fun i => i ≤ 6) (fun i => 6 - i) 0 (Nat.zero_le _) ?_ (fun i hi => ?_)
  ·refine Wk.mk [(4, some 4), (5, some 5), (8, some 8), (9, some 9), (20, some 20)] rfl rfl rfl ?_ ?_
   ·exact allT
   ·exact ⟨HeapOk.same rfl rfl rfl rfl, HeapOk.same rfl rfl rfl rfl, HeapOk.same rfl rfl rfl rfl, HeapOk.box rfl rfl ⟨LeC.int rfl, LeC.int rfl, LeC.ow _ _ rfl, trivial⟩ rfl, HeapOk.row rfl rfl rfl (fun i _ => cell1 ⟨rfl, rfl⟩), trivial⟩
  by_cases hil : i < 6
  ·have hil' : (i : Int) < 6 := by omega
   have g1 := Get_A 6 5 30 d i j ha
   have g2 := Get_A W H n e ((i : Int) - 0) ((j : Int) - 0) hb
   have hnew := pasK_new (d := d) (W := W) (H := H) (e := e) (j := j) hil
   have hlt : j * 6 + i < 30 := by omega
   cases h1 : hasB 6 5 d i j with
   | true =>
     rw [h1] at g1 hnew
     repeat (first
      | refine AWp.seq ?_
      | refine thenA_n ?_
      | refine AWp.block ?_
      | refine AWp.skip ?_
      | refine inBlk_n ?_
      | refine AWp.condT rfl cnT ?_
      | (refine aY (id := 8) ?_
         refine qr3 aA ?_
         refine qr7 (aD tyOk) ?_
         refine qr7o2 (aE tyOk) ?_
         refine qr5t aK ?_
         refine aB ?_)
      | (refine aY (id := 9) ?_
         refine qr3 aA ?_
         refine qr4w2 aL ?_
         refine qr3 aC ?_
         refine aB ?_)
      | (refine AWp.draw (id := 10) mixed ?_; refine qr7 (aD tyOk) ?_; refine qr7o2 (aE tyOk) ?_; refine qr3 aA ?_; refine qr7 (aD tyOk) ?_; refine qr7o2 (aE tyOk) ?_; refine qr4w2 AList.mul ?_; refine qr3 aA ?_; refine qr4w2 aL ?_; refine qr7o2 (aF tyOk) ?_; (iterate 2 refine qr3 aA ?_); refine aH rfl rfl rfl rfl Try.func61 rfl (by kernel_rfl) (g1) ?_; refine qr3 aA ?_; (iterate 8 refine qr2 aG ?_); refine qr4 aS ?_; refine qr10eo (AList.idxOw (k := j * 6 + i) tyOk) ?_; refine qr8o2 (aI tyOk) ?_; refine aB ⟨by kernel_rfl, ?_⟩))
     refine ⟨i + 1, hil, Wk.mk [(4, some 4), (5, some 5), (8, some 8), (9, some 9), (20, some 20)] rfl rfl rfl ?_ ?_, by omega⟩
     ·exact allT
     ·exact ⟨HeapOk.same rfl rfl rfl rfl, HeapOk.same rfl rfl rfl rfl, HeapOk.same rfl rfl rfl rfl, HeapOk.box rfl rfl ⟨LeC.int rfl, LeC.int rfl, LeC.ow _ _ rfl, trivial⟩ rfl, HeapOk.row rfl rfl rfl (set_oneB (e := true) (pasK d W H e (j * 6 + i + 1)) (by rw [hnew]; rfl) (fun k hk => pasK_old hk)), trivial⟩
   | false =>
     rw [h1] at g1 hnew
     generalize hasB W H e ((i : Int) - 0) ((j : Int) - 0) = v at g2 hnew
     repeat (first
      | refine AWp.seq ?_
      | refine thenA_n ?_
      | refine AWp.block ?_
      | refine AWp.skip ?_
      | refine inBlk_n ?_
      | refine AWp.condT rfl cnT ?_
      | (refine aY (id := 8) ?_
         refine qr3 aA ?_
         refine qr7 (aD tyOk) ?_
         refine qr7o2 (aE tyOk) ?_
         refine qr5t aK ?_
         refine aB ?_)
      | (refine aY (id := 9) ?_
         refine qr3 aA ?_
         refine qr4w2 aL ?_
         refine qr3 aC ?_
         refine aB ?_)
      | (refine AWp.draw (id := 10) mixed ?_; refine qr7 (aD tyOk) ?_; refine qr7o2 (aE tyOk) ?_; refine qr3 aA ?_; refine qr7 (aD tyOk) ?_; refine qr7o2 (aE tyOk) ?_; refine qr4w2 AList.mul ?_; refine qr3 aA ?_; refine qr4w2 aL ?_; refine qr7o2 (aF tyOk) ?_; (iterate 2 refine qr3 aA ?_); refine aH rfl rfl rfl rfl Try.func61 rfl (by kernel_rfl) (g1) ?_; refine qr3 aA ?_; refine qr7o2 (aF tyOk) ?_; (iterate 2 refine qr3 aA ?_); refine qr4w2 AList.sub ?_; (iterate 2 refine qr3 aA ?_); refine qr4w2 AList.sub ?_; refine aH rfl rfl rfl rfl Try.func61 rfl (by kernel_rfl) (g2) ?_; refine qr4 aR ?_; refine qr10eo (AList.idxOw (k := j * 6 + i) tyOk) ?_; refine qr8o2 (aI tyOk) ?_; refine aB ⟨by kernel_rfl, ?_⟩))
     refine ⟨i + 1, hil, Wk.mk [(4, some 4), (5, some 5), (8, some 8), (9, some 9), (20, some 20)] rfl rfl rfl ?_ ?_, by omega⟩
     ·exact allT
     ·exact ⟨HeapOk.same rfl rfl rfl rfl, HeapOk.same rfl rfl rfl rfl, HeapOk.same rfl rfl rfl rfl, HeapOk.box rfl rfl ⟨LeC.int rfl, LeC.int rfl, LeC.ow _ _ rfl, trivial⟩ rfl, HeapOk.row rfl rfl rfl (set_oneB (e := v) (pasK d W H e (j * 6 + i + 1)) (by rw [hnew]; rfl) (fun k hk => pasK_old hk)), trivial⟩
  ·have hil' : ¬ (i : Int) < 6 := by omega
   obtain rfl : i = 6 := by omega
   repeat (first
    | refine AWp.seq ?_
    | refine thenA_n ?_
    | refine AWp.exit ?_
    | refine thenA_e ?_
    | refine inBlk_n ?_
    | refine inBlk_hit ?_
    | refine AWp.condF rfl cnF ?_
    | (refine aY (id := 6) ?_
       refine qr3 aA ?_
       refine qr4w2 aL ?_
       refine qr3 aC ?_
       refine aB ?_)
    | (refine aY (id := 8) ?_
       refine qr3 aA ?_
       refine qr7 (aD tyOk) ?_
       refine qr7o2 (aE tyOk) ?_
       refine qr5f aJ ?_
       refine aB ?_))
   refine ⟨j + 1, hjl, Wk.mk [(4, some 4), (5, some 5), (8, some 8), (9, some 9), (20, some 20)] rfl rfl rfl ?_ ?_, by omega⟩
   ·exact allT
   ·exact ⟨HeapOk.same rfl rfl rfl rfl, HeapOk.same rfl rfl rfl rfl, HeapOk.same rfl rfl rfl rfl, HeapOk.box rfl rfl ⟨LeC.int rfl, LeC.int rfl, LeC.ow _ _ rfl, trivial⟩ rfl, HeapOk.row rfl rfl rfl (fun i _ => cell1 ⟨by rw [show (j + 1) * 6 = j * 6 + 6 by omega], rfl⟩), trivial⟩
 ·have hjl' : ¬ (j : Int) < 5 := by omega
  obtain rfl : j = 5 := by omega
  repeat (first
   | refine AWp.seq ?_
   | refine thenA_n ?_
   | refine AWp.exit ?_
   | refine AWp.ret ?_
   | refine AWp.condF rfl cnF ?_
   | (refine aY (id := 5) ?_
      refine qr3 aA ?_
      refine qr7 (aD tyOk) ?_
      refine qr7o2 (aE tyOk) ?_
      refine qr5f aJ ?_
      refine aB ?_)
   | (refine aY (id := 11) ?_
      refine qr7o2 (aF tyOk) ?_
      refine qr8o2 (aI tyOk) ?_
      refine aB ?_))
  refine ⟨mkSt 65 [(8, .c (.pt 8 3 0 0))] [(8, ⟨false, 1, 3, 47, lF (bmpV 6 5 30 (pasD d W H e))⟩)] [8], [(8, ⟨false, 1, 3, 47, lF (bmpV 6 5 30 (pasD d W H e))⟩)], Wk.mk [(8, some 8)] rfl rfl rfl ?_ ?_, rfl, rfl, ARets.one (x := .ag _) (ARes.box tyOk rfl rfl rfl rfl rfl rfl rfl)⟩
  ·exact allT
  ·exact ⟨HeapOk.box rfl rfl ⟨LeC.int rfl, LeC.int rfl, LeC.fz rfl rfl rfl (fun i hi => cell1 ⟨by show bC _ = bC _; unfold pasK; rw [if_pos (by omega)], rfl⟩), trivial⟩ rfl, trivial⟩
end Go.Proofs.Ytjjaehpkccejaaa
end
