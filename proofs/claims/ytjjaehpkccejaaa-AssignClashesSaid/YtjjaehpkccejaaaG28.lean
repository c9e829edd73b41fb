/- Parts of the proof: A28e. -/
import Derived.Test.YtjjaehpkccejaaaG27
set_option linter.unusedSimpArgs false
set_option linter.unusedVariables false
section
namespace Go.Proofs.Ytjjaehpkccejaaa
open Go.RowKit Go.Flow Go.AV Go.Plain
def sdF (W H : Nat) (d : Nat → Bool) (r : Rd) (k i : Nat) : Bool := if i < k then seeD W H d r i else false
theorem sdF_old {W H : Nat} {d : Nat → Bool} {r : Rd} {k i : Nat} (hi : ¬ i = k) : sdF W H d r (k + 1) i = sdF W H d r k i := by
 unfold sdF
 by_cases h : i < k
 ·rw [if_pos h, if_pos (by omega)]
 ·rw [if_neg h, if_neg (by omega)]
set_option maxHeartbeats 2000000 in
set_option maxRecDepth 100000 in
theorem See_A (r : Rd) (b : Bp) (hb : -1000000 ≤ r.bl ∧ r.bl ≤ 1000000) : ACalls Try.prog 25 [.ag (rdC r), .ag (bpC b)] (.tu [.ag (bpC (seeB r b)), .c (iC (seeE r b))]) := by
 have h1 := RdCheck_A r hb
 have h2 := bCheck_A b.W b.H b.n b.d
 by_cases c1 : rdE r = 0
 ·rw [c1] at h1
  by_cases c2 : chk b.W b.H b.n = 0
  ·have hE : seeE r b = 0 := (seeE_ch c1).trans c2
   rw [seeB_ok hE, hE]
   rw [c2] at h2
   obtain ⟨hw0, hw1, hh0, hh1, hn⟩ := okB c2
   obtain ⟨g1, g2, g3, g4⟩ := rdE_ok c1
   obtain ⟨W, hW⟩ := Int.eq_ofNat_of_zero_le hw0
   obtain ⟨H, hH⟩ := Int.eq_ofNat_of_zero_le hh0
   obtain ⟨bW, bH, n, d⟩ := b
   dsimp only at hW hH hn hw0 hw1 hh0 hh1 h2 ⊢
   subst hW hH
   rw [show Int.toNat (W : Int) = W from rfl, show Int.toNat (H : Int) = H from rfl]
   replace hn : n = W * H := by
    have : ((n : Nat) : Int) = ((W * H : Nat) : Int) := by rw [Int.natCast_mul]; exact hn
    omega
   have hC := counter_A W H n d r.bl (by omega) (by omega) hn
   have hn2 : n ≤ 9216 := by
    have := Nat.mul_le_mul (show W ≤ 96 by omega) (show H ≤ 96 by omega)
    omega
   refine acalls_at Try.func25 rfl rfl Try.ntmps25 rfl ?_
   repeat (first
    | refine AWp.seq ?_
    | refine thenA_n ?_
    | refine AWp.block ?_
    | refine AWp.skip ?_
    | refine AWp.condF rfl cnF ?_
    | (refine rG 0 ?_
       (iterate 2 refine qr5 aQ ?_)
       refine qr5 (aM tyOk) ?_
       refine kC ?_
       refine aB ?_)
    | (refine rG 1 ?_
       refine kF ?_
       refine aH rfl rfl rfl rfl Try.func40 rfl (by kernel_rfl) (h1) ?_
       refine kC ?_
       refine aB ?_)
    | (refine rG 2 ?_
       refine kA ?_
       refine qr5 aW ?_
       refine aB ?_)
    | (refine rG 4 ?_
       refine kF ?_
       refine aH rfl rfl rfl rfl Try.func41 rfl (by kernel_rfl) (h2) ?_
       refine kC ?_
       refine aB ?_)
    | (refine rG 5 ?_
       refine kA ?_
       refine qr5 aW ?_
       refine aB ?_)
    | (refine rG 7 ?_
       refine kF ?_
       refine kD ?_
       refine kE ?_
       refine aH rfl rfl rfl rfl Try.func54 rfl (by kernel_rfl) (hC) ?_
       refine kC ?_
       refine aB ?_)
    | (refine AWp.draw (id := 8) mixed ?_; refine kD ?_; refine kE ?_; refine kD ?_; refine kE ?_; refine kD ?_; refine kE ?_; refine qr5 (aO tyOk) ?_; refine qr9e2o2 (AList.makeSl (n := n) tyOk) ?_; refine qr8 (aX tyOk) ?_; refine qr5 (aM tyOk) ?_; refine kI ?_; refine aB ⟨by kernel_rfl, ?_⟩)
    | (refine rG 9 ?_
       refine kD ?_
       refine kE ?_
       refine qr7 (AList.lenOw tyOk) ?_
       refine kA ?_
       refine aB ?_))
   refine AWp.round (fun k : Nat =>
    mkSt 61 [(2, .c (.pt 2 2 0 0)), (3, .c (.pt 3 3 0 0)), (4, .c (.pt 4 3 0 0)), (8, .c (cntFn W H n d r.bl)), (9, .c (.pt 9 3 0 0)), (38, .c (iC n)), (39, .c (iC (k : Nat)))] [(2, ⟨false, 1, 2, 65, lF (rdC r)⟩), (3, ⟨false, 1, 3, 47, lF (bmpV W H n d)⟩), (4, ⟨false, 1, 3, 47, lF (bpC bpZ)⟩), (9, ⟨false, 1, 3, 47, lF [iC W, iC H, .ow 34]⟩), (34, rowBl n (sdF W H d r k))] [2, 3, 4, 9, 34]
    ) (fun k => k ≤ n) (fun k => n - k) 0 (Nat.zero_le _) ?_ (fun k hk => ?_)
   ·refine Wk.mk [(2, some 2), (3, some 3), (4, some 4), (9, some 9), (34, some 34)] rfl rfl rfl ?_ ?_
    ·exact allT
    ·exact ⟨hSm, hSm, (by first | exact hSm | exact HeapOk.box rfl rfl ⟨LeC.int rfl, LeC.int rfl, LeC.nils _ _, trivial⟩ rfl), HeapOk.box rfl rfl ⟨LeC.int rfl, LeC.int rfl, (LeC.ow _ _ rfl), trivial⟩ rfl, HeapOk.row rfl rfl rfl (fun i _ => cell1 ⟨congrArg bC (if_neg (Nat.not_lt_zero i)).symm, rfl⟩), trivial⟩
   ·by_cases hkl : k < n
    ·have hkl' : (k : Int) < n := by omega
     have hW0 : 0 < W := Nat.pos_of_ne_zero fun h => by rw [h, Nat.zero_mul] at hn; omega
     have hW0' : 0 < (W : Int) := by omega
     have hx : k % W < W := Nat.mod_lt _ hW0
     have hy : k / W < H := Nat.div_lt_of_lt_mul (by rw [← hn]; exact hkl)
     have hxi := Int.natCast_nonneg (k % W)
     have hyi := Int.natCast_nonneg (k / W)
     have hA := count_A W H n d ((k % W : Nat) : Int) ((k / W : Nat) : Int) r.bl (by omega) (by omega) ⟨hxi, by omega⟩ ⟨hyi, Int.ofNat_le.2 (show k / W ≤ 96 by omega)⟩ (by omega)
     rw [Int.natCast_emod, Int.natCast_ediv] at hA
     have hsd : seeD W H d r k = decide (r.sh ≤ arN W H d ((k : Int) % W) ((k : Int) / W) r.bl) := by
      unfold seeD
      rw [Int.natCast_emod, Int.natCast_ediv]
     repeat (first
      | refine AWp.seq ?_
      | refine thenA_n ?_
      | refine AWp.block ?_
      | refine AWp.skip ?_
      | refine inBlk_n ?_
      | refine AWp.condT rfl cnT ?_
      | (refine rG 10 ?_
         refine qr5t aK ?_
         refine aB ?_)
      | (refine rG 11 ?_
         refine kA ?_
         refine kC ?_
         refine aB ?_)
      | (refine AWp.draw (id := 12) mixed ?_; refine kD ?_; refine kE ?_; (iterate 3 refine kA ?_); refine kD ?_; refine kE ?_; refine qr4w2 AList.rem ?_; refine kA ?_; refine kD ?_; refine kE ?_; refine qr4w3 AList.quo ?_; refine AList.callV rfl rfl (FnV.fi _ _ rfl rfl) rfl rfl Try.func70 rfl (by kernel_rfl) (hA) ?_; refine kD ?_; refine kE ?_; refine qr5 aW ?_; refine qr10eo (AList.idxOw (k := k) tyOk) ?_; refine kI ?_; refine aB ⟨by kernel_rfl, ?_⟩)
      | (refine rG 13 ?_
         refine qr4w2 aL ?_
         refine kA ?_
         refine aB ?_))
     refine ⟨k + 1, hkl, Wk.mk [(2, some 2), (3, some 3), (4, some 4), (9, some 9), (34, some 34)] rfl rfl rfl ?_ ?_, by omega⟩
     ·exact allT
     ·exact ⟨hSm, hSm, (by first | exact hSm | exact HeapOk.box rfl rfl ⟨LeC.int rfl, LeC.int rfl, LeC.nils _ _, trivial⟩ rfl), HeapOk.box rfl rfl ⟨LeC.int rfl, LeC.int rfl, (LeC.ow _ _ rfl), trivial⟩ rfl, HeapOk.row rfl rfl rfl (set_oneB (sdF W H d r (k + 1)) ((if_pos (Nat.lt_succ_self k)).trans hsd) (fun i hi => sdF_old hi)), trivial⟩
    ·have hkl' : ¬ (k : Int) < n := by omega
     obtain rfl : k = n := by omega
     repeat (first
      | refine AWp.seq ?_
      | refine thenA_n ?_
      | refine AWp.exit ?_
      | refine AWp.ret ?_
      | refine AWp.condF rfl cnF ?_
      | (refine rG 10 ?_
         refine qr5f aJ ?_
         refine aB ?_)
      | (refine rG 14 ?_
         refine kF ?_
         refine kI ?_
         refine kC ?_
         refine aB ?_))
     refine ⟨mkSt 61 [(4, .c (.pt 4 3 0 0)), (5, .c (iC 0))] [(4, ⟨false, 1, 3, 47, lF (bmpV W H k (seeD W H d r))⟩)] [4], [(4, ⟨false, 1, 3, 47, lF (bmpV W H k (seeD W H d r))⟩)], Wk.mk [(4, some 4)] rfl rfl rfl ?_ ?_, rfl, rfl, ARets.two (x := .ag _) (y := .c _) (ARes.box tyOk rfl rfl rfl rfl rfl rfl rfl) (ARes.tmp rfl rfl)⟩
     ·exact allT
     ·exact ⟨HeapOk.box rfl rfl ⟨LeC.int rfl, LeC.int rfl, LeC.fz rfl rfl rfl (fun i hi => cell1 ⟨congrArg bC (if_pos hi), rfl⟩), trivial⟩ rfl, trivial⟩
  ·have hE : seeE r b = chk b.W b.H b.n := seeE_ch c1
   rw [seeB_no (by rw [hE]; exact c2), hE]
   generalize chk b.W b.H b.n = e at *
   refine acalls_at Try.func25 rfl rfl Try.ntmps25 rfl ?_
   repeat (first
    | refine AWp.seq ?_
    | refine thenA_n ?_
    | refine AWp.skip ?_
    | refine AWp.ret ?_
    | refine thenA_r ?_
    | refine AWp.condT rfl cnT ?_
    | refine AWp.condF rfl cnF ?_
    | (refine rG 0 ?_
       (iterate 2 refine qr5 aQ ?_)
       refine qr5 (aM tyOk) ?_
       refine kC ?_
       refine aB ?_)
    | (refine rG 1 ?_
       refine kF ?_
       refine aH rfl rfl rfl rfl Try.func40 rfl (by kernel_rfl) (h1) ?_
       refine kC ?_
       refine aB ?_)
    | (refine rG 2 ?_
       refine kA ?_
       refine qr5 aW ?_
       refine aB ?_)
    | (refine rG 4 ?_
       refine kF ?_
       refine aH rfl rfl rfl rfl Try.func41 rfl (by kernel_rfl) (h2) ?_
       refine kC ?_
       refine aB ?_)
    | (refine rG 5 ?_
       refine kA ?_
       refine qr5t aK ?_
       refine aB ?_)
    | (refine rG 6 ?_
       refine qr8 (aX tyOk) ?_
       refine kA ?_
       refine kI ?_
       refine kC ?_
       refine aB ?_))
   refine ⟨mkSt 61 [(4, .c (.pt 4 3 0 0)), (5, .c (iC (e)))] [(4, ⟨false, 1, 3, 47, lF (bpC (bpZ))⟩)] [4], [(4, ⟨false, 1, 3, 47, lF (bpC (bpZ))⟩)], Wk.mk [(4, some 4)] rfl rfl rfl ?_ ?_, rfl, rfl, ARets.two (x := .ag _) (y := .c _) (ARes.box tyOk rfl rfl rfl rfl rfl rfl rfl) (ARes.tmp rfl rfl)⟩
   ·exact allT
   ·exact ⟨HeapOk.box rfl rfl ⟨LeC.int rfl, LeC.int rfl, LeC.nils _ _, trivial⟩ rfl, trivial⟩
 ·have hE : seeE r b = rdE r := seeE_rd c1
  rw [seeB_no (by rw [hE]; exact c1), hE]
  generalize rdE r = e at *
  refine acalls_at Try.func25 rfl rfl Try.ntmps25 rfl ?_
  repeat (first
   | refine AWp.seq ?_
   | refine thenA_n ?_
   | refine AWp.ret ?_
   | refine thenA_r ?_
   | refine AWp.condT rfl cnT ?_
   | (refine rG 0 ?_
      (iterate 2 refine qr5 aQ ?_)
      refine qr5 (aM tyOk) ?_
      refine kC ?_
      refine aB ?_)
   | (refine rG 1 ?_
      refine kF ?_
      refine aH rfl rfl rfl rfl Try.func40 rfl (by kernel_rfl) (h1) ?_
      refine kC ?_
      refine aB ?_)
   | (refine rG 2 ?_
      refine kA ?_
      refine qr5t aK ?_
      refine aB ?_)
   | (refine rG 3 ?_
      refine qr8 (aX tyOk) ?_
      refine kA ?_
      refine kI ?_
      refine kC ?_
      refine aB ?_))
  refine ⟨mkSt 61 [(4, .c (.pt 4 3 0 0)), (5, .c (iC (e)))] [(4, ⟨false, 1, 3, 47, lF (bpC (bpZ))⟩)] [4], [(4, ⟨false, 1, 3, 47, lF (bpC (bpZ))⟩)], Wk.mk [(4, some 4)] rfl rfl rfl ?_ ?_, rfl, rfl, ARets.two (x := .ag _) (y := .c _) (ARes.box tyOk rfl rfl rfl rfl rfl rfl rfl) (ARes.tmp rfl rfl)⟩
  ·exact allT
  ·exact ⟨HeapOk.box rfl rfl ⟨LeC.int rfl, LeC.int rfl, LeC.nils _ _, trivial⟩ rfl, trivial⟩
end Go.Proofs.Ytjjaehpkccejaaa
end
