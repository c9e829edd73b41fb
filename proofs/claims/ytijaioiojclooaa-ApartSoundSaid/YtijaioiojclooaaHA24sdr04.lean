/- Parts of the proof: A23f, A23h. -/
import Derived.Test.YtijaioiojclooaaG17
import Derived.Test.YtijaioiojclooaaHA24sdr03
import Derived.Test.YtijaioiojclooaaG11
import Derived.Test.YtijaioiojclooaaHA24sdr01
import Derived.Test.YtijaioiojclooaaG08
import Derived.Test.YtijaioiojclooaaG10
import Derived.Laws.Cover3
import Derived.Test.YtijaioiojclooaaProg
import Derived.Test.YtijaioiojclooaaG01
import Derived.Test.YtijaioiojclooaaG15
import Derived.Test.YtijaioiojclooaaHA24sdr02
import Derived.Test.YtijaioiojclooaaG07
import Derived.Laws.StructEq
import Derived.Lib.Hide
import Derived.Deep.QuietTactic
import Derived.BigQuiet
import Derived.Deep.DrawnRows
import Derived.Deep.AppendLies
import Derived.Test.YtijaioiojclooaaG16
import Derived.WalkKit
import Derived.Maps.AppendAt
import Derived.OwnWalk
import Derived.StillTail
import Derived.Below
import Derived.Deep.Draws
import Derived.KernelRfl
import Derived.Test.YtijaioiojclooaaG06
import Derived.Test.YtijaioiojclooaaG05
import Derived.Great.BuildSlice
import Derived.Test.YtijaioiojclooaaG04
import Derived.Test.YtijaioiojclooaaG03
import Derived.RangeFuncLeaves
import Derived.RangeFuncRecord
import Derived.Test.YtijaioiojclooaaG02
import Derived.OrdersIn
import Derived.TacticsIn
import Derived.RangeFuncCalls
set_option linter.unusedSimpArgs false
set_option linter.unusedVariables false
section
namespace Go.Proofs.Ytijaioiojclooaa
open Go.RowKit Go.Flow Go.AV Go.Plain
set_option maxHeartbeats 1000000 in
set_option maxRecDepth 100000 in
theorem iPut_T (Wn Hn n : Nat) (dot : Nat → Bool) (dx dy : Int) (hE : putE Wn Hn n dx dy = 0) :
    OTCalls Try.prog 62 [.ag (bmpV Wn Hn n dot), .c (iC dx), .c (iC dy)] (fun id => .tu [.ag ([iC ((Wn : Int) + 4), iC ((Hn : Int) + 4)] ++ .ow id :: []), .c (iC 0)]) (rowI ((Wn + 4) * (Hn + 4)) (putF Wn Hn dot dx dy)) := by
  unfold putE at hE
  split at hE
  case isFalse h => exact absurd hE h
  rename_i hok
  split at hE
  case isFalse => cases hE
  rename_i hs
  have hs' := shiftB_iff.1 hs
  obtain ⟨-, hW, -, hH, hn⟩ := okB hok
  have hc := bCheck_A Wn Hn n dot
  rw [hok] at hc
  obtain ⟨m, hm⟩ : ∃ m, m = (Wn + 4) * (Hn + 4) := ⟨_, rfl⟩
  have hm' : ((Wn : Int) + 4) * ((Hn : Int) + 4) = (m : Int) := by rw [hm]; simp
  have hmb : m ≤ 10000 := by rw [hm]; exact Nat.mul_le_mul (by omega : Wn + 4 ≤ 100) (by omega : Hn + 4 ≤ 100)
  have hnb : n ≤ 9216 := by
    have : n = Wn * Hn := by exact_mod_cast hn
    rw [this]; exact Nat.mul_le_mul (by omega : Wn ≤ 96) (by omega : Hn ≤ 96)
  rw [← hm]
  refine otcalls2_at tyOk Try.func62 rfl rfl Try.ntmps62 rfl rfl ?_
  repeat (first
    | refine AWp.seq ?_
    | refine thenA_n ?_
    | refine AWp.block ?_
    | refine AWp.skip ?_
    | refine AWp.condF rfl (by first | rfl | assumption | exact cmF) ?_
    | (refine AWp.region (id := 0) ?_; refine AList.box rfl rfl rfl rfl rfl ?_; refine AList.alloc tyOk rfl rfl rfl rfl rfl ?_; refine AList.assign rfl rfl rfl ?_; refine AList.nil ?_)
    | (refine AWp.region (id := 1) ?_; refine AList.loadA tyOk rfl rfl rfl rfl rfl rfl rfl oM oM ?_; refine AList.call rfl rfl rfl rfl Try.func45 rfl (by kernel_rfl) (hc) ?_; refine AList.assign rfl rfl rfl ?_; refine AList.nil ?_)
    | (refine AWp.region (id := 2) ?_; refine AList.move rfl rfl rfl ?_; refine AList.cmp rfl rfl rfl rfl rfl ?_; refine AList.nil ?_)
    | (refine AWp.region (id := 4) ?_; refine AList.move rfl rfl rfl ?_; refine AList.move rfl rfl rfl ?_; refine AList.maxI rfl rfl rfl rfl ?_; refine AList.cmpF rfl rfl rfl rfl rfl cmF ?_; refine AList.move rfl rfl rfl ?_; refine AList.move rfl rfl rfl ?_; refine AList.move rfl rfl rfl ?_; refine AList.minI rfl rfl rfl rfl ?_; refine AList.cmpF rfl rfl rfl rfl rfl cmF ?_; refine AList.pickF rfl rfl rfl rfl ?_; refine AList.nil ?_)
    | (refine AWp.region (id := 6) ?_; refine AList.fieldPt tyOk rfl rfl rfl rfl rfl rfl rfl ?_; refine AList.load1 tyOk rfl rfl rfl rfl rfl rfl rfl oM oM ?_; refine AList.add rfl rfl rfl rfl (by omega) (by omega) ?_; refine AList.fieldPt tyOk rfl rfl rfl rfl rfl rfl rfl ?_; refine AList.load1 tyOk rfl rfl rfl rfl rfl rfl rfl oM oM ?_; refine AList.add rfl rfl rfl rfl (by omega) (by omega) ?_; refine AList.buildSt tyOk rfl rfl rfl rfl rfl rfl rfl rfl ?_; refine AList.alloc tyOk rfl rfl rfl rfl rfl ?_; refine AList.store tyOk rfl rfl rfl rfl rfl rfl rfl rfl oM oM ?_; refine AList.nil ?_)
    | (refine AWp.region (id := 7) ?_; refine AList.fieldPt tyOk rfl rfl rfl rfl rfl rfl rfl ?_; refine AList.load1 tyOk rfl rfl rfl rfl rfl rfl rfl oM oM ?_; refine AList.fieldPt tyOk rfl rfl rfl rfl rfl rfl rfl ?_; refine AList.load1 tyOk rfl rfl rfl rfl rfl rfl rfl oM oM ?_; refine AList.mul rfl rfl rfl rfl (by omega) (by omega) ?_; refine AList.makeSl (n := m) tyOk rfl rfl rfl rfl rfl rfl rfl rfl rfl (by first | rfl | omega) (by first | rfl | omega) oM oM ?_; refine AList.fieldPt tyOk rfl rfl rfl rfl rfl rfl rfl ?_; refine AList.store tyOk rfl rfl rfl rfl rfl rfl rfl rfl oM oM ?_; refine AList.nil ?_)
    | (refine AWp.region (id := 8) ?_; refine AList.fieldPt tyOk rfl rfl rfl rfl rfl rfl rfl ?_; refine AList.load1 tyOk rfl rfl rfl rfl rfl rfl rfl oM oM ?_; refine AList.lenLs tyOk rfl rfl rfl rfl rfl ?_; refine AList.move rfl rfl rfl ?_; refine AList.nil ?_))
  refine AWp.round (fun k : Nat => mkSt 75 [(1, .c (iC dx)), (2, .c (iC dy)), (3, .c (.pt 3 3 0 0)), (6, .c (.pt 6 3 0 0)), (9, .c (.pt 9 3 0 0)), (44, .c (.ls n 1 (bF dot))), (45, .c (iC n)), (46, .c (iC k))]
    [(3, ⟨false, 1, 3, 27, lF (bmpV Wn Hn n dot)⟩), (6, ⟨false, 1, 3, 52, lF [iC 0, iC 0, .p (.slice none 0 0)]⟩), (9, ⟨false, 1, 3, 52, lF [iC ((Wn : Int) + 4), iC ((Hn : Int) + 4), .ow 41]⟩), (41, rowI m (putF Wn Hn (below k dot) dx dy))] [3, 6, 9, 41])
    (fun k => k ≤ n) (fun k => n - k) 0 (Nat.zero_le _) ?_ (fun k hk => ?_)
  · refine Wk.mk [(3, some 3), (6, some 6), (9, some 9), (41, some 41)] rfl rfl rfl ?_ ?_
    · repeat (first | exact trivial | refine ⟨⟨_, rfl, by first | exact LeA.c (LeC.refl _ rfl) | exact LeA.c (LeC.ow _ _ rfl) | exact LeA.c (LeC.pt _ _ _ _ _ rfl) | exact LeA.c (LeC.nil _ rfl) | exact LeA.c (LeC.nils _ _) | (refine LeA.int ?_; omega) | (refine LeA.int ?_; dsimp only; omega) | exact LeA.c (LeC.fz rfl rfl (by first | rfl | omega) (fun i _ j _ => ⟨rfl, by first | rfl | exact rowN_imm (fun _ => rfl) _ i j | exact rowF_imm (fun _ => rfl) _ i j⟩))⟩, ?_⟩)
    · exact ⟨HeapOk.same rfl rfl rfl rfl, HeapOk.same rfl rfl rfl rfl, HeapOk.box rfl rfl ⟨LeC.int rfl, LeC.int rfl, LeC.ow _ _ rfl, trivial⟩ rfl, HeapOk.row rfl rfl rfl (fun i _ => cell1 ⟨congrArg iC (putF_none _ _ _ _ _ i).symm, rfl⟩), trivial⟩
  · by_cases hlt : k < n
    · obtain ⟨t1, t2, t3, t4, t5, t6, t7⟩ := tgt_bd hn hs hlt
      by_cases hd : dot k = true
      · obtain ⟨j, hj⟩ := Int.eq_ofNat_of_zero_le t1
        have hset := putF_set hn hlt hd hs
        have hjm : j < m := by rw [hm'] at t2; omega
        have htg : ((k : Int) / Wn + 2 + dy) * ((Wn : Int) + 4) + (k : Int) % Wn + 2 + dx = (j : Int) := by rw [← hj]; unfold tgt; rfl
        have hq := mul_bd (n := (k : Int) / Wn + 2 + dy) (a := (Wn : Int) + 4) (A := 200) (B := 100) (by omega) (by omega) (by omega) (by omega)
        repeat (first
          | refine AWp.seq ?_
          | refine thenA_n ?_
          | refine AWp.block ?_
          | refine AWp.skip ?_
          | refine inBlk_n ?_
          | refine AWp.condT rfl (by first | rfl | assumption | exact cmT) ?_
          | (refine AWp.region (id := 9) ?_; refine AList.cmpT rfl rfl rfl rfl rfl cmT ?_; refine AList.nil ?_)
          | (refine AWp.region (id := 10) ?_; refine AList.move rfl rfl rfl ?_; refine AList.idx (k := k) tyOk rfl rfl rfl rfl rfl rfl rfl rfl (by first | rfl | omega) oM oM ?_; refine AList.load1l tyOk rfl rfl rfl rfl rfl oM ?_; refine AList.assign rfl rfl rfl ?_; refine AList.assign rfl rfl rfl ?_; refine AList.nil ?_)
          | (refine AWp.region (id := 11) ?_; refine AList.move rfl rfl rfl ?_; refine AList.nil ?_)
          | (refine AWp.draw (id := 12) mixed ?_; refine AList.fieldPt tyOk rfl rfl rfl rfl rfl rfl rfl ?_; refine AList.load1 tyOk rfl rfl rfl rfl rfl rfl rfl oM oM ?_; refine AList.move rfl rfl rfl ?_; refine AList.fieldPt tyOk rfl rfl rfl rfl rfl rfl rfl ?_; refine AList.load1 tyOk rfl rfl rfl rfl rfl rfl rfl oM oM ?_; refine AList.quo rfl rfl rfl rfl (by omega) (by omega) (by omega) ?_; refine AList.add rfl rfl rfl rfl (by omega) (by omega) ?_; refine AList.move rfl rfl rfl ?_; refine AList.add rfl rfl rfl rfl (by omega) (by omega) ?_; refine AList.fieldPt tyOk rfl rfl rfl rfl rfl rfl rfl ?_; refine AList.load1 tyOk rfl rfl rfl rfl rfl rfl rfl oM oM ?_; refine AList.mul rfl rfl rfl rfl (by omega) (by omega) ?_; refine AList.move rfl rfl rfl ?_; refine AList.fieldPt tyOk rfl rfl rfl rfl rfl rfl rfl ?_; refine AList.load1 tyOk rfl rfl rfl rfl rfl rfl rfl oM oM ?_; refine AList.rem rfl rfl rfl rfl (by omega) (by omega) ?_; refine AList.add rfl rfl rfl rfl (by omega) (by omega) ?_; refine AList.add rfl rfl rfl rfl (by omega) (by omega) ?_; refine AList.move rfl rfl rfl ?_; refine AList.add rfl rfl rfl rfl (by omega) (by omega) ?_; refine AList.idxOw (k := j) tyOk rfl rfl rfl rfl rfl rfl rfl rfl rfl rfl (by first | rfl | omega) oM ?_; refine AList.store tyOk rfl rfl rfl rfl rfl rfl rfl rfl oM oM ?_; refine AList.nil ⟨by kernel_rfl, ?_⟩)
          | (refine AWp.region (id := 13) ?_; refine AList.add rfl rfl rfl rfl (by omega) (by omega) ?_; refine AList.move rfl rfl rfl ?_; refine AList.nil ?_))
        refine ⟨k + 1, by omega, Wk.mk [(3, some 3), (6, some 6), (9, some 9), (41, some 41)] rfl rfl rfl ?_ ?_, by omega⟩
        · repeat (first | exact trivial | refine ⟨⟨_, rfl, by first | exact LeA.c (LeC.refl _ rfl) | exact LeA.c (LeC.ow _ _ rfl) | exact LeA.c (LeC.pt _ _ _ _ _ rfl) | exact LeA.c (LeC.nil _ rfl) | exact LeA.c (LeC.nils _ _) | (refine LeA.int ?_; omega) | (refine LeA.int ?_; dsimp only; omega) | exact LeA.c (LeC.fz rfl rfl (by first | rfl | omega) (fun i _ j _ => ⟨rfl, by first | rfl | exact rowN_imm (fun _ => rfl) _ i j | exact rowF_imm (fun _ => rfl) _ i j⟩))⟩, ?_⟩)
        · exact ⟨HeapOk.same rfl rfl rfl rfl, HeapOk.same rfl rfl rfl rfl, HeapOk.box rfl rfl ⟨LeC.int rfl, LeC.int rfl, LeC.ow _ _ rfl, trivial⟩ rfl, HeapOk.row rfl rfl rfl (set_one (putF Wn Hn (below (k + 1) dot) dx dy) (by rw [hset, if_pos hj.symm]) (fun i hi => by rw [hset, if_neg (by rw [hj]; omega)])), trivial⟩
      · have hd' : dot k = false := by cases h : dot k; rfl; exact absurd h hd
        have hskip := putF_skip hd' dx dy (W := Wn) (H := Hn)
        repeat (first
          | refine AWp.seq ?_
          | refine thenA_n ?_
          | refine AWp.block ?_
          | refine AWp.skip ?_
          | refine inBlk_n ?_
          | refine AWp.condT rfl (by first | rfl | assumption | exact cmT) ?_
          | refine AWp.condF rfl (by first | rfl | assumption | exact cmF) ?_
          | (refine AWp.region (id := 9) ?_; refine AList.cmpT rfl rfl rfl rfl rfl cmT ?_; refine AList.nil ?_)
          | (refine AWp.region (id := 10) ?_; refine AList.move rfl rfl rfl ?_; refine AList.idx (k := k) tyOk rfl rfl rfl rfl rfl rfl rfl rfl (by first | rfl | omega) oM oM ?_; refine AList.load1l tyOk rfl rfl rfl rfl rfl oM ?_; refine AList.assign rfl rfl rfl ?_; refine AList.assign rfl rfl rfl ?_; refine AList.nil ?_)
          | (refine AWp.region (id := 11) ?_; refine AList.move rfl rfl rfl ?_; refine AList.nil ?_)
          | (refine AWp.region (id := 13) ?_; refine AList.add rfl rfl rfl rfl (by omega) (by omega) ?_; refine AList.move rfl rfl rfl ?_; refine AList.nil ?_))
        refine ⟨k + 1, by omega, Wk.mk [(3, some 3), (6, some 6), (9, some 9), (41, some 41)] rfl rfl rfl ?_ ?_, by omega⟩
        · repeat (first | exact trivial | refine ⟨⟨_, rfl, by first | exact LeA.c (LeC.refl _ rfl) | exact LeA.c (LeC.ow _ _ rfl) | exact LeA.c (LeC.pt _ _ _ _ _ rfl) | exact LeA.c (LeC.nil _ rfl) | exact LeA.c (LeC.nils _ _) | (refine LeA.int ?_; omega) | (refine LeA.int ?_; dsimp only; omega) | exact LeA.c (LeC.fz rfl rfl (by first | rfl | omega) (fun i _ j _ => ⟨rfl, by first | rfl | exact rowN_imm (fun _ => rfl) _ i j | exact rowF_imm (fun _ => rfl) _ i j⟩))⟩, ?_⟩)
        · exact ⟨HeapOk.same rfl rfl rfl rfl, HeapOk.same rfl rfl rfl rfl, HeapOk.box rfl rfl ⟨LeC.int rfl, LeC.int rfl, LeC.ow _ _ rfl, trivial⟩ rfl, HeapOk.row rfl rfl rfl (fun i _ => cell1 ⟨congrArg iC (hskip i).symm, rfl⟩), trivial⟩
    · obtain rfl : k = n := by omega
      repeat (first
        | refine AWp.seq ?_
        | refine thenA_n ?_
        | refine AWp.exit ?_
        | refine AWp.ret ?_
        | refine AWp.condF rfl (by first | rfl | assumption | exact cmF) ?_
        | (refine AWp.region (id := 9) ?_; refine AList.cmpF rfl rfl rfl rfl rfl cmF ?_; refine AList.nil ?_)
        | (refine AWp.region (id := 14) ?_; refine AList.loadA tyOk rfl rfl rfl rfl rfl rfl rfl oM oM ?_; refine AList.store tyOk rfl rfl rfl rfl rfl rfl rfl rfl oM oM ?_; refine AList.assign rfl rfl rfl ?_; refine AList.nil ?_))
      refine ⟨mkSt 75 [(6, .c (.pt 6 3 0 0)), (7, .c (iC 0))] [(6, ⟨false, 1, 3, 52, lF [iC ((Wn : Int) + 4), iC ((Hn : Int) + 4), .ow 41]⟩), (41, rowI m (putF Wn Hn dot dx dy))] [6, 41], Wk.mk [(6, some 6), (41, some 41)] rfl rfl rfl ?_ ?_, 6, 52, 6, 3, 52, _, 41, _, 7, rfl, rfl, rfl, rfl, rfl, rfl, rfl, rfl, rfl, rfl, fun _ _ _ _ => rfl⟩
      · repeat (first | exact trivial | refine ⟨⟨_, rfl, by first | exact LeA.c (LeC.refl _ rfl) | exact LeA.c (LeC.ow _ _ rfl) | exact LeA.c (LeC.pt _ _ _ _ _ rfl) | exact LeA.c (LeC.nil _ rfl) | exact LeA.c (LeC.nils _ _) | (refine LeA.int ?_; omega) | (refine LeA.int ?_; dsimp only; omega) | exact LeA.c (LeC.fz rfl rfl (by first | rfl | omega) (fun i _ j _ => ⟨rfl, by first | rfl | exact rowN_imm (fun _ => rfl) _ i j | exact rowF_imm (fun _ => rfl) _ i j⟩))⟩, ?_⟩)
      · exact ⟨HeapOk.box rfl rfl ⟨LeC.int rfl, LeC.int rfl, LeC.ow _ _ rfl, trivial⟩ rfl, HeapOk.row rfl rfl rfl (fun i _ => cell1 ⟨congrArg iC (putF_congr hn (below_all (Nat.le_refl _)) dx dy i), rfl⟩), trivial⟩
end Go.Proofs.Ytijaioiojclooaa
end

section
namespace Go.Proofs.Ytijaioiojclooaa
open Go.RowKit Go.Flow Go.AV Go.Plain
structure Ht where
  dx : Int
  dy : Int
  N : Nat
  lo : Nat → Int
  M : Nat
  bl : Nat → Int
  fr : Int
  ti : Int
abbrev htC (h : Ht) : List CV := [iC h.dx, iC h.dy, .ls h.N 1 (iF h.lo), .ls h.M 1 (iF h.bl), iC h.fr, iC h.ti]
abbrev bpx (b : Bp) (h : Ht) : Nat → Int := putF b.W b.H b.d h.dx h.dy
abbrev bpm (b : Bp) : Nat := ((b.W + 4) * (b.H + 4)).toNat
def apE (b : Bp) (h : Ht) : Int := if putE b.W b.H b.n h.dx h.dy = 0 then (if mkAll (bpm b) (bpx b h) h.lo 1 h.N = true ∧ mkAll (bpm b) (bpx b h) h.bl 0 h.M = true ∧ 0 ≤ h.fr ∧ h.fr ≤ h.ti ∧ h.ti ≤ b.W + 4 then 0 else 1) else putE b.W b.H b.n h.dx h.dy
def apF (b : Bp) (h : Ht) : Nat → Int := hideF (b.W + 4) (setL (setL (bpx b h) h.lo 0 h.N) h.bl 1 h.M) h.fr h.ti
abbrev apI (b : Bp) (h : Ht) : List CV := if apE b h = 0 then imgV (b.W + 4) (b.H + 4) (bpm b) (apF b h) else imgV 0 0 0 fun _ => 0
abbrev apV (b : Bp) (h : Ht) : AV := .tu [.ag (apI b h), .c (iC (apE b h))]
theorem setL_bd {px l : Nat → Int} {v : Int} (hv : 0 ≤ v ∧ v ≤ 1) (hp : ∀ p, 0 ≤ px p ∧ px p ≤ 1) : ∀ (k p : Nat), 0 ≤ setL px l v k p ∧ setL px l v k p ≤ 1
  | 0, p => hp p
  | k + 1, p => by
    show 0 ≤ (if p = (l k).toNat then v else setL px l v k p) ∧ (if p = (l k).toNat then v else setL px l v k p) ≤ 1
    split
    · exact hv
    · exact setL_bd hv hp k p
set_option maxHeartbeats 2000000 in
set_option maxRecDepth 100000 in
theorem pApply_A (b : Bp) (h : Ht) (hN : h.N ≤ 4611686018427387904) (hM : h.M ≤ 4611686018427387904) : ACalls Try.prog 25 [.ag (bpC b), .ag (htC h)] (apV b h) := by
  obtain ⟨W, H, n, d⟩ := b
  obtain ⟨dx, dy, N, lo, M, bl, fr, ti⟩ := h
  dsimp only at hN hM
  by_cases hp : putE W H n dx dy = 0
  · have hokb : chk W H n = 0 := by
      unfold putE at hp
      split at hp
      · assumption
      · exact absurd hp ‹_›
    obtain ⟨hw0, hW, hh0, hH, hn⟩ := okB hokb
    obtain ⟨Wn, rfl⟩ := Int.eq_ofNat_of_zero_le hw0
    obtain ⟨Hn, rfl⟩ := Int.eq_ofNat_of_zero_le hh0
    have hPut := iPut_T Wn Hn n d dx dy hp
    have hmE : bpm ⟨Wn, Hn, n, d⟩ = (Wn + 4) * (Hn + 4) := by
      show (((Wn : Int) + 4) * ((Hn : Int) + 4)).toNat = _
      have : ((Wn : Int) + 4) * ((Hn : Int) + 4) = (((Wn + 4) * (Hn + 4) : Nat) : Int) := by simp
      rw [this, Int.toNat_natCast]
    obtain ⟨m, hm⟩ : ∃ m, m = (Wn + 4) * (Hn + 4) := ⟨_, rfl⟩
    have hmb : m ≤ 10000 := by rw [hm]; exact Nat.mul_le_mul (by omega : Wn + 4 ≤ 100) (by omega : Hn + 4 ≤ 100)
    have hm0 : 0 < m := by rw [hm]; exact Nat.mul_pos (by omega) (by omega)
    obtain ⟨px, hpx⟩ : ∃ px, px = putF Wn Hn d dx dy := ⟨_, rfl⟩
    have hpb : ∀ p, 0 ≤ px p ∧ px p ≤ 1 := fun p => by rw [hpx]; exact putF_bd _ _ _ _ _ p
    rw [← hm, ← hpx] at hPut
    have hCl := Clone_T m px hm0 (by omega)
    have hK1 := mark_A ((Wn : Int) + 4) ((Hn : Int) + 4) m px N lo 1 0 hm0 (by omega) hN
    have hK2 := mark_A ((Wn : Int) + 4) ((Hn : Int) + 4) m px M bl 0 1 hm0 (by omega) hM
    have hEq : apE ⟨Wn, Hn, n, d⟩ ⟨dx, dy, N, lo, M, bl, fr, ti⟩ = if mkAll m px lo 1 N = true ∧ mkAll m px bl 0 M = true ∧ 0 ≤ fr ∧ fr ≤ ti ∧ ti ≤ (Wn : Int) + 4 then 0 else 1 := by
      unfold apE
      rw [if_pos hp]
      dsimp only
      rw [hmE, ← hm, hpx]
    by_cases hA : mkAll m px lo 1 N = true
    · have e1 : mkPx m px lo 1 0 N = setL px lo 0 N := if_pos hA
      rw [hA, e1] at hK1
      by_cases hB : mkAll m px bl 0 M = true
      · rw [hB] at hK2
        have hcs : fr < 0 ∨ (¬ fr < 0 ∧ ti < fr) ∨ (¬ fr < 0 ∧ ¬ ti < fr ∧ (Wn : Int) + 4 < ti) ∨ (0 ≤ fr ∧ fr ≤ ti ∧ ti ≤ (Wn : Int) + 4) := by omega
        rcases hcs with h | ⟨h, h'⟩ | ⟨h, h', h''⟩ | ⟨g1, g2, g3⟩
        case inr.inr.inr =>
          have hE1 : apE ⟨Wn, Hn, n, d⟩ ⟨dx, dy, N, lo, M, bl, fr, ti⟩ = 0 := by rw [hEq, if_pos ⟨hA, hB, g1, g2, g3⟩]
          have hIm : apI ⟨Wn, Hn, n, d⟩ ⟨dx, dy, N, lo, M, bl, fr, ti⟩ = imgV ((Wn : Int) + 4) ((Hn : Int) + 4) m (hideF ((Wn : Int) + 4) (setL (setL px lo 0 N) bl 1 M) fr ti) := by
            rw [apI, if_pos hE1]
            dsimp only [apF, bpx]
            rw [hmE, ← hm, hpx]
          rw [apV, hIm, hE1]
          obtain ⟨p1, hp1⟩ : ∃ p1, p1 = setL px lo 0 N := ⟨_, rfl⟩
          rw [← hp1] at hK1 ⊢
          have hp1b : ∀ p, 0 ≤ p1 p ∧ p1 p ≤ 1 := fun p => by rw [hp1]; exact setL_bd (by omega) hpb N p
          have hp2b := fun p => setL_bd (l := bl) (v := 1) (by omega) hp1b M p
          have hHi := iHide_A (Wn + 4) (Hn + 4) m (setL p1 bl 1 M) fr ti (by
            rw [chkI_ok]
            refine ⟨⟨by omega, by omega, by omega, by omega, by rw [hm]; simp⟩, fun p _ => ⟨(hp2b p).1, Int.le_trans (hp2b p).2 (by decide)⟩⟩) hm0
          rw [show ((Wn + 4 : Nat) : Int) = (Wn : Int) + 4 by simp, show ((Hn + 4 : Nat) : Int) = (Hn : Int) + 4 by simp] at hHi
          have hbl := mkAll_iff.1 hB
          refine acalls_at Try.func25 rfl rfl Try.ntmps25 rfl ?_
          repeat (first
            | refine AWp.seq ?_
            | refine thenA_n ?_
            | refine AWp.block ?_
            | refine AWp.skip ?_
            | refine AWp.condF rfl (by first | rfl | assumption | exact cmF) ?_
            | (refine AWp.region (id := 0) ?_; refine AList.box rfl rfl rfl rfl rfl ?_; refine AList.box rfl rfl rfl rfl rfl ?_; refine AList.alloc tyOk rfl rfl rfl rfl rfl ?_; refine AList.assign rfl rfl rfl ?_; refine AList.nil ?_)
            | (refine AWp.region (id := 1) ?_; refine AList.loadA tyOk rfl rfl rfl rfl rfl rfl rfl oM oM ?_; refine AList.fieldPt tyOk rfl rfl rfl rfl rfl rfl rfl ?_; refine AList.load1 tyOk rfl rfl rfl rfl rfl rfl rfl oM oM ?_; refine AList.fieldPt tyOk rfl rfl rfl rfl rfl rfl rfl ?_; refine AList.load1 tyOk rfl rfl rfl rfl rfl rfl rfl oM oM ?_; refine AList.callT rfl rfl rfl rfl rfl Try.func62 rfl (by kernel_rfl) (hPut) (fun _ _ _ _ => rfl) ?_; refine AList.move rfl rfl rfl ?_; refine AList.extract rfl rfl rfl rfl ?_; refine AList.extract rfl rfl rfl rfl ?_; refine AList.alloc tyOk rfl rfl rfl rfl rfl ?_; refine AList.store tyOk rfl rfl rfl rfl rfl rfl rfl rfl oM oM ?_; refine AList.assign rfl rfl rfl ?_; refine AList.nil ?_)
            | (refine AWp.region (id := 2) ?_; refine AList.move rfl rfl rfl ?_; refine AList.cmp rfl rfl rfl rfl rfl ?_; refine AList.nil ?_)
            | (refine AWp.draw (id := 4) mixed ?_; refine AList.fieldPt tyOk rfl rfl rfl rfl rfl rfl rfl ?_; refine AList.load1 tyOk rfl rfl rfl rfl rfl rfl rfl oM oM ?_; refine AList.fieldPt tyOk rfl rfl rfl rfl rfl rfl rfl ?_; refine AList.load1 tyOk rfl rfl rfl rfl rfl rfl rfl oM oM ?_; refine AList.fieldPt tyOk rfl rfl rfl rfl rfl rfl rfl ?_; refine AList.load1 tyOk rfl rfl rfl rfl rfl rfl rfl oM oM ?_; refine AList.callTP [17] rfl rfl rfl rfl Try.func63 rfl (by kernel_rfl) (hCl) (⟨.inr ⟨17, m, 1, _, _, iF px, rfl, rfl, by simp, rfl, fun _ _ => cell1 ⟨rfl, rfl⟩⟩, trivial⟩) (fun _ _ _ _ => rfl) ?_; refine AList.buildSt tyOk rfl rfl rfl rfl rfl rfl rfl rfl ?_; refine AList.alloc tyOk rfl rfl rfl rfl rfl ?_; refine AList.store tyOk rfl rfl rfl rfl rfl rfl rfl rfl oM oM ?_; refine AList.nil ⟨by kernel_rfl, ?_⟩)
            | (refine AWp.region (id := 5) ?_; refine AList.loadA tyOk rfl rfl rfl rfl rfl rfl rfl oM oM ?_; refine AList.fieldPt tyOk rfl rfl rfl rfl rfl rfl rfl ?_; refine AList.load1 tyOk rfl rfl rfl rfl rfl rfl rfl oM oM ?_; refine AList.callH [17] [rowI m px] [rowI m p1] rfl rfl rfl Try.func64 rfl (by kernel_rfl) (LendOk.row rfl hm0 (fun _ _ => cell1 ⟨rfl, rfl⟩) trivial) rfl (LendImm.row (fun _ _ => cell1 rfl) trivial) (hK1) ?_; refine AList.notB rfl rfl rfl ?_; refine AList.move rfl rfl rfl ?_; refine AList.loadA tyOk rfl rfl rfl rfl rfl rfl rfl oM oM ?_; refine AList.fieldPt tyOk rfl rfl rfl rfl rfl rfl rfl ?_; refine AList.load1 tyOk rfl rfl rfl rfl rfl rfl rfl oM oM ?_; refine AList.callH [30] [rowI m px] [rowI m (mkPx m px bl 0 1 M)] rfl rfl rfl Try.func64 rfl (by kernel_rfl) (LendOk.row rfl hm0 (fun _ _ => cell1 ⟨rfl, rfl⟩) trivial) rfl (LendImm.row (fun _ _ => cell1 rfl) trivial) (hK2) ?_; refine AList.notB rfl rfl rfl ?_; refine AList.pickF rfl rfl rfl rfl ?_; refine AList.move rfl rfl rfl ?_; refine AList.fieldPt tyOk rfl rfl rfl rfl rfl rfl rfl ?_; refine AList.load1 tyOk rfl rfl rfl rfl rfl rfl rfl oM oM ?_; refine AList.cmpF rfl rfl rfl rfl rfl cmF ?_; refine AList.pickF rfl rfl rfl rfl ?_; refine AList.move rfl rfl rfl ?_; refine AList.fieldPt tyOk rfl rfl rfl rfl rfl rfl rfl ?_; refine AList.load1 tyOk rfl rfl rfl rfl rfl rfl rfl oM oM ?_; refine AList.fieldPt tyOk rfl rfl rfl rfl rfl rfl rfl ?_; refine AList.load1 tyOk rfl rfl rfl rfl rfl rfl rfl oM oM ?_; refine AList.cmpF rfl rfl rfl rfl rfl cmF ?_; refine AList.pickF rfl rfl rfl rfl ?_; refine AList.move rfl rfl rfl ?_; refine AList.fieldPt tyOk rfl rfl rfl rfl rfl rfl rfl ?_; refine AList.load1 tyOk rfl rfl rfl rfl rfl rfl rfl oM oM ?_; refine AList.fieldPt tyOk rfl rfl rfl rfl rfl rfl rfl ?_; refine AList.load1 tyOk rfl rfl rfl rfl rfl rfl rfl oM oM ?_; refine AList.cmpF rfl rfl rfl rfl rfl cmF ?_; refine AList.pickF rfl rfl rfl rfl ?_; refine AList.nil ?_)
            | (refine AWp.region (id := 7) ?_; refine AList.fieldPt tyOk rfl rfl rfl rfl rfl rfl rfl ?_; refine AList.load1 tyOk rfl rfl rfl rfl rfl rfl rfl oM oM ?_; refine AList.lenLs tyOk rfl rfl rfl rfl rfl ?_; refine AList.move rfl rfl rfl ?_; refine AList.nil ?_))
          refine AWp.round (fun k : Nat => mkSt 82 [(3, .c (.pt 3 6 0 0)), (4, .c (.pt 4 3 0 0)), (6, .c (.pt 6 3 0 0)), (65, .c (.ls M 1 (iF bl))), (66, .c (iC M)), (67, .c (iC k))]
            [(3, ⟨false, 1, 6, 67, lF [iC dx, iC dy, .ls N 1 (iF lo), .ls M 1 (iF bl), iC fr, iC ti]⟩), (4, ⟨false, 1, 3, 52, lF [iC 0, iC 0, .p (.slice none 0 0)]⟩), (6, ⟨false, 1, 3, 52, lF [iC ((Wn : Int) + 4), iC ((Hn : Int) + 4), .ow 17]⟩), (17, rowI m (setL p1 bl 1 k))] [3, 4, 6, 17])
            (fun k => k ≤ M) (fun k => M - k) 0 (Nat.zero_le _) ?_ (fun k hk => ?_)
          · refine Wk.mk [(3, some 3), (4, some 4), (6, some 6), (17, some 17)] rfl rfl rfl ?_ ?_
            · repeat (first | exact trivial | refine ⟨⟨_, rfl, by first | exact LeA.c (LeC.refl _ rfl) | exact LeA.c (LeC.ow _ _ rfl) | exact LeA.c (LeC.pt _ _ _ _ _ rfl) | exact LeA.c (LeC.nil _ rfl) | exact LeA.c (LeC.nils _ _) | (refine LeA.int ?_; omega) | (refine LeA.int ?_; dsimp only; omega) | exact LeA.c (LeC.fz rfl rfl (by first | rfl | omega) (fun i _ j _ => ⟨rfl, by first | rfl | exact rowN_imm (fun _ => rfl) _ i j | exact rowF_imm (fun _ => rfl) _ i j⟩))⟩, ?_⟩)
            · exact ⟨HeapOk.same rfl rfl rfl rfl, HeapOk.same rfl rfl rfl rfl, HeapOk.box rfl rfl ⟨LeC.int rfl, LeC.int rfl, LeC.ow _ _ rfl, trivial⟩ rfl, HeapOk.row rfl rfl rfl (fun i _ => cell1 ⟨rfl, rfl⟩), trivial⟩
          · by_cases hlt : k < M
            · obtain ⟨q1, q2, -, -⟩ := hbl k hlt
              obtain ⟨j, hj⟩ := Int.eq_ofNat_of_zero_le q1
              have hjm : j < m := by omega
              have hlj : (bl k).toNat = j := by omega
              repeat (first
                | refine AWp.seq ?_
                | refine thenA_n ?_
                | refine AWp.block ?_
                | refine AWp.skip ?_
                | refine inBlk_n ?_
                | refine AWp.condT rfl (by first | rfl | assumption | exact cmT) ?_
                | (refine AWp.region (id := 8) ?_; refine AList.cmpT rfl rfl rfl rfl rfl cmT ?_; refine AList.nil ?_)
                | (refine AWp.region (id := 9) ?_; refine AList.idx (k := k) tyOk rfl rfl rfl rfl rfl rfl rfl rfl (by first | rfl | omega) oM oM ?_; refine AList.load1l tyOk rfl rfl rfl rfl rfl oM ?_; refine AList.assign rfl rfl rfl ?_; refine AList.nil ?_)
                | (refine AWp.region (id := 10) ?_; refine AList.fieldPt tyOk rfl rfl rfl rfl rfl rfl rfl ?_; refine AList.load1 tyOk rfl rfl rfl rfl rfl rfl rfl oM oM ?_; refine AList.move rfl rfl rfl ?_; refine AList.idxOw (k := j) tyOk rfl rfl rfl rfl rfl rfl rfl rfl rfl rfl (by first | rfl | omega) oM ?_; refine AList.store tyOk rfl rfl rfl rfl rfl rfl rfl rfl oM oM ?_; refine AList.nil ?_)
                | (refine AWp.region (id := 11) ?_; refine AList.add rfl rfl rfl rfl (by omega) (by omega) ?_; refine AList.move rfl rfl rfl ?_; refine AList.nil ?_))
              refine ⟨k + 1, by omega, Wk.mk [(3, some 3), (4, some 4), (6, some 6), (17, some 17)] rfl rfl rfl ?_ ?_, by omega⟩
              · repeat (first | exact trivial | refine ⟨⟨_, rfl, by first | exact LeA.c (LeC.refl _ rfl) | exact LeA.c (LeC.ow _ _ rfl) | exact LeA.c (LeC.pt _ _ _ _ _ rfl) | exact LeA.c (LeC.nil _ rfl) | exact LeA.c (LeC.nils _ _) | (refine LeA.int ?_; omega) | (refine LeA.int ?_; dsimp only; omega) | exact LeA.c (LeC.fz rfl rfl (by first | rfl | omega) (fun i _ j _ => ⟨rfl, by first | rfl | exact rowN_imm (fun _ => rfl) _ i j | exact rowF_imm (fun _ => rfl) _ i j⟩))⟩, ?_⟩)
              · exact ⟨HeapOk.same rfl rfl rfl rfl, HeapOk.same rfl rfl rfl rfl, HeapOk.box rfl rfl ⟨LeC.int rfl, LeC.int rfl, LeC.ow _ _ rfl, trivial⟩ rfl, HeapOk.row rfl rfl rfl (set_one (setL p1 bl 1 (k + 1)) (if_pos hlj.symm) (fun p hp => if_neg (by rw [hlj]; exact hp))), trivial⟩
            · obtain rfl : k = M := by omega
              repeat (first
                | refine AWp.seq ?_
                | refine AWp.exit ?_
                | refine AWp.condF rfl (by first | rfl | assumption | exact cmF) ?_
                | (refine AWp.region (id := 8) ?_; refine AList.cmpF rfl rfl rfl rfl rfl cmF ?_; refine AList.nil ?_))
              refine AWp.weak (S' := mkSt 82 [(3, .c (.pt 3 6 0 0)), (4, .c (.pt 4 3 0 0)), (6, .c (.pt 6 3 0 0))]
                [(3, ⟨false, 1, 6, 67, lF [iC dx, iC dy, .ls N 1 (iF lo), .ls k 1 (iF bl), iC fr, iC ti]⟩), (4, ⟨false, 1, 3, 52, lF [iC 0, iC 0, .p (.slice none 0 0)]⟩), (6, ⟨false, 1, 3, 52, lF (imgV ((Wn : Int) + 4) ((Hn : Int) + 4) m (setL p1 bl 1 k))⟩)] [3, 4, 6]) (Wk.mk [(3, some 3), (4, some 4), (6, some 6)] rfl rfl rfl ?_ ?_) ?_
              · repeat (first | exact trivial | refine ⟨⟨_, rfl, by first | exact LeA.c (LeC.refl _ rfl) | exact LeA.c (LeC.ow _ _ rfl) | exact LeA.c (LeC.pt _ _ _ _ _ rfl) | exact LeA.c (LeC.nil _ rfl) | exact LeA.c (LeC.nils _ _) | (refine LeA.int ?_; omega) | (refine LeA.int ?_; dsimp only; omega) | exact LeA.c (LeC.fz rfl rfl (by first | rfl | omega) (fun i _ j _ => ⟨rfl, by first | rfl | exact rowN_imm (fun _ => rfl) _ i j | exact rowF_imm (fun _ => rfl) _ i j⟩))⟩, ?_⟩)
              · exact ⟨HeapOk.same rfl rfl rfl rfl, HeapOk.same rfl rfl rfl rfl, HeapOk.box rfl rfl ⟨LeC.int rfl, LeC.int rfl, LeC.fz rfl rfl rfl (fun i _ => cell1 ⟨rfl, rfl⟩), trivial⟩ rfl, trivial⟩
              repeat (first
                | refine thenA_n ?_
                | refine AWp.ret ?_
                | (refine AWp.region (id := 12) ?_; refine AList.loadA tyOk rfl rfl rfl rfl rfl rfl rfl oM oM ?_; refine AList.fieldPt tyOk rfl rfl rfl rfl rfl rfl rfl ?_; refine AList.load1 tyOk rfl rfl rfl rfl rfl rfl rfl oM oM ?_; refine AList.fieldPt tyOk rfl rfl rfl rfl rfl rfl rfl ?_; refine AList.load1 tyOk rfl rfl rfl rfl rfl rfl rfl oM oM ?_; refine AList.call rfl rfl rfl rfl Try.func65 rfl (by kernel_rfl) (hHi) ?_; refine AList.store tyOk rfl rfl rfl rfl rfl rfl rfl rfl oM oM ?_; refine AList.assign rfl rfl rfl ?_; refine AList.nil ?_))
              refine ⟨mkSt 82 [(4, .c (.pt 4 3 0 0)), (5, .c (iC 0))] [(4, ⟨false, 1, 3, 52, lF (imgV ((Wn : Int) + 4) ((Hn : Int) + 4) m (hideF ((Wn : Int) + 4) (setL p1 bl 1 k) fr ti))⟩)] [4], [(4, ⟨false, 1, 3, 52, lF (imgV ((Wn : Int) + 4) ((Hn : Int) + 4) m (hideF ((Wn : Int) + 4) (setL p1 bl 1 k) fr ti))⟩)], Wk.mk [(4, some 4)] rfl rfl rfl ?_ ?_, rfl, rfl, ARets.two (x := .ag _) (y := .c _) (ARes.box tyOk rfl rfl rfl rfl rfl rfl rfl) (ARes.tmp rfl rfl)⟩
              · repeat (first | exact trivial | refine ⟨⟨_, rfl, by first | exact LeA.c (LeC.refl _ rfl) | exact LeA.c (LeC.ow _ _ rfl) | exact LeA.c (LeC.pt _ _ _ _ _ rfl) | exact LeA.c (LeC.nil _ rfl) | exact LeA.c (LeC.nils _ _) | (refine LeA.int ?_; omega) | (refine LeA.int ?_; dsimp only; omega) | exact LeA.c (LeC.fz rfl rfl (by first | rfl | omega) (fun i _ j _ => ⟨rfl, by first | rfl | exact rowN_imm (fun _ => rfl) _ i j | exact rowF_imm (fun _ => rfl) _ i j⟩))⟩, ?_⟩)
              · repeat (first | exact trivial | refine ⟨by first | exact HeapOk.same rfl rfl rfl rfl | exact HeapOk.lent rfl rfl rfl rfl | exact HeapOk.nil rfl rfl | exact HeapOk.row rfl rfl (by first | rfl | omega) (fun i _ j _ => ⟨rfl, by first | rfl | exact rowN_imm (fun _ => rfl) _ i j | exact rowF_imm (fun _ => rfl) _ i j⟩) | exact HeapOk.box rfl rfl (by repeat (first | exact trivial | refine ⟨by first | exact LeC.refl _ rfl | exact LeC.ow _ _ rfl | exact LeC.nil _ rfl | exact LeC.nils _ _ | exact LeC.fz rfl rfl (by first | rfl | omega) (fun i _ j _ => ⟨rfl, by first | rfl | exact rowN_imm (fun _ => rfl) _ i j | exact rowF_imm (fun _ => rfl) _ i j⟩) | exact LeC.int (by omega), ?_⟩)) rfl, ?_⟩)
        all_goals
          have hE1 : apE ⟨Wn, Hn, n, d⟩ ⟨dx, dy, N, lo, M, bl, fr, ti⟩ = 1 := by rw [hEq, if_neg fun h => by omega]
          rw [apV, apI, hE1]
          refine acalls_at Try.func25 rfl rfl Try.ntmps25 rfl ?_
          repeat (first
            | refine AWp.seq ?_
            | refine thenA_n ?_
            | refine AWp.skip ?_
            | refine AWp.ret ?_
            | refine thenA_r ?_
            | refine AWp.condT rfl (by first | rfl | assumption | exact cmT) ?_
            | refine AWp.condF rfl (by first | rfl | assumption | exact cmF) ?_
            | (refine AWp.region (id := 0) ?_; refine AList.box rfl rfl rfl rfl rfl ?_; refine AList.box rfl rfl rfl rfl rfl ?_; refine AList.alloc tyOk rfl rfl rfl rfl rfl ?_; refine AList.assign rfl rfl rfl ?_; refine AList.nil ?_)
            | (refine AWp.region (id := 1) ?_; refine AList.loadA tyOk rfl rfl rfl rfl rfl rfl rfl oM oM ?_; refine AList.fieldPt tyOk rfl rfl rfl rfl rfl rfl rfl ?_; refine AList.load1 tyOk rfl rfl rfl rfl rfl rfl rfl oM oM ?_; refine AList.fieldPt tyOk rfl rfl rfl rfl rfl rfl rfl ?_; refine AList.load1 tyOk rfl rfl rfl rfl rfl rfl rfl oM oM ?_; refine AList.callT rfl rfl rfl rfl rfl Try.func62 rfl (by kernel_rfl) (hPut) (fun _ _ _ _ => rfl) ?_; refine AList.move rfl rfl rfl ?_; refine AList.extract rfl rfl rfl rfl ?_; refine AList.extract rfl rfl rfl rfl ?_; refine AList.alloc tyOk rfl rfl rfl rfl rfl ?_; refine AList.store tyOk rfl rfl rfl rfl rfl rfl rfl rfl oM oM ?_; refine AList.assign rfl rfl rfl ?_; refine AList.nil ?_)
            | (refine AWp.region (id := 2) ?_; refine AList.move rfl rfl rfl ?_; refine AList.cmp rfl rfl rfl rfl rfl ?_; refine AList.nil ?_)
            | (refine AWp.draw (id := 4) mixed ?_; refine AList.fieldPt tyOk rfl rfl rfl rfl rfl rfl rfl ?_; refine AList.load1 tyOk rfl rfl rfl rfl rfl rfl rfl oM oM ?_; refine AList.fieldPt tyOk rfl rfl rfl rfl rfl rfl rfl ?_; refine AList.load1 tyOk rfl rfl rfl rfl rfl rfl rfl oM oM ?_; refine AList.fieldPt tyOk rfl rfl rfl rfl rfl rfl rfl ?_; refine AList.load1 tyOk rfl rfl rfl rfl rfl rfl rfl oM oM ?_; refine AList.callTP [17] rfl rfl rfl rfl Try.func63 rfl (by kernel_rfl) (hCl) (⟨.inr ⟨17, m, 1, _, _, iF px, rfl, rfl, by simp, rfl, fun _ _ => cell1 ⟨rfl, rfl⟩⟩, trivial⟩) (fun _ _ _ _ => rfl) ?_; refine AList.buildSt tyOk rfl rfl rfl rfl rfl rfl rfl rfl ?_; refine AList.alloc tyOk rfl rfl rfl rfl rfl ?_; refine AList.store tyOk rfl rfl rfl rfl rfl rfl rfl rfl oM oM ?_; refine AList.nil ⟨by kernel_rfl, ?_⟩)
            | (refine AWp.region (id := 5) ?_; refine AList.loadA tyOk rfl rfl rfl rfl rfl rfl rfl oM oM ?_; refine AList.fieldPt tyOk rfl rfl rfl rfl rfl rfl rfl ?_; refine AList.load1 tyOk rfl rfl rfl rfl rfl rfl rfl oM oM ?_; refine AList.callH [17] [rowI m px] [rowI m (setL px lo 0 N)] rfl rfl rfl Try.func64 rfl (by kernel_rfl) (LendOk.row rfl hm0 (fun _ _ => cell1 ⟨rfl, rfl⟩) trivial) rfl (LendImm.row (fun _ _ => cell1 rfl) trivial) (hK1) ?_; refine AList.notB rfl rfl rfl ?_; refine AList.move rfl rfl rfl ?_; refine AList.loadA tyOk rfl rfl rfl rfl rfl rfl rfl oM oM ?_; refine AList.fieldPt tyOk rfl rfl rfl rfl rfl rfl rfl ?_; refine AList.load1 tyOk rfl rfl rfl rfl rfl rfl rfl oM oM ?_; refine AList.callH [30] [rowI m px] [rowI m (mkPx m px bl 0 1 M)] rfl rfl rfl Try.func64 rfl (by kernel_rfl) (LendOk.row rfl hm0 (fun _ _ => cell1 ⟨rfl, rfl⟩) trivial) rfl (LendImm.row (fun _ _ => cell1 rfl) trivial) (hK2) ?_; refine AList.notB rfl rfl rfl ?_; refine AList.pickF rfl rfl rfl rfl ?_; refine AList.move rfl rfl rfl ?_; refine AList.fieldPt tyOk rfl rfl rfl rfl rfl rfl rfl ?_; refine AList.load1 tyOk rfl rfl rfl rfl rfl rfl rfl oM oM ?_; (first | refine AList.cmpT rfl rfl rfl rfl rfl cmT ?_ | refine AList.cmpF rfl rfl rfl rfl rfl cmF ?_); refine AList.pickF rfl rfl rfl rfl ?_; refine AList.move rfl rfl rfl ?_; (first | refine AList.skip rfl rfl ?_ | refine AList.fieldPt tyOk rfl rfl rfl rfl rfl rfl rfl ?_); (first | refine AList.skip rfl rfl ?_ | refine AList.load1 tyOk rfl rfl rfl rfl rfl rfl rfl oM oM ?_); (first | refine AList.skip rfl rfl ?_ | refine AList.fieldPt tyOk rfl rfl rfl rfl rfl rfl rfl ?_); (first | refine AList.skip rfl rfl ?_ | refine AList.load1 tyOk rfl rfl rfl rfl rfl rfl rfl oM oM ?_); (first | refine AList.skip rfl rfl ?_ | refine AList.cmpT rfl rfl rfl rfl rfl cmT ?_ | refine AList.cmpF rfl rfl rfl rfl rfl cmF ?_); (first | refine AList.pickT rfl rfl rfl rfl ?_ | refine AList.pickF rfl rfl rfl rfl ?_); refine AList.move rfl rfl rfl ?_; (first | refine AList.skip rfl rfl ?_ | refine AList.fieldPt tyOk rfl rfl rfl rfl rfl rfl rfl ?_); (first | refine AList.skip rfl rfl ?_ | refine AList.load1 tyOk rfl rfl rfl rfl rfl rfl rfl oM oM ?_); (first | refine AList.skip rfl rfl ?_ | refine AList.fieldPt tyOk rfl rfl rfl rfl rfl rfl rfl ?_); (first | refine AList.skip rfl rfl ?_ | refine AList.load1 tyOk rfl rfl rfl rfl rfl rfl rfl oM oM ?_); (first | refine AList.skip rfl rfl ?_ | refine AList.cmpT rfl rfl rfl rfl rfl cmT ?_); (first | refine AList.pickT rfl rfl rfl rfl ?_ | refine AList.pickF rfl rfl rfl rfl ?_); refine AList.nil ?_)
            | (refine AWp.region (id := 6) ?_; refine AList.buildSt tyOk rfl rfl rfl rfl rfl rfl rfl rfl ?_; refine AList.store tyOk rfl rfl rfl rfl rfl rfl rfl rfl oM oM ?_; refine AList.assign rfl rfl rfl ?_; refine AList.nil ?_))
          refine ⟨mkSt 82 [(4, .c (.pt 4 3 0 0)), (5, .c (iC (1)))] [(4, ⟨false, 1, 3, 52, lF (imgV 0 0 0 fun _ => 0)⟩)] [4], [(4, ⟨false, 1, 3, 52, lF (imgV 0 0 0 fun _ => 0)⟩)], Wk.mk [(4, some 4)] rfl rfl rfl ?_ ?_, rfl, rfl, ARets.two (x := .ag _) (y := .c _) (ARes.box tyOk rfl rfl rfl rfl rfl rfl rfl) (ARes.tmp rfl rfl)⟩
          · repeat (first | exact trivial | refine ⟨⟨_, rfl, by first | exact LeA.c (LeC.refl _ rfl) | exact LeA.c (LeC.ow _ _ rfl) | exact LeA.c (LeC.pt _ _ _ _ _ rfl) | exact LeA.c (LeC.nil _ rfl) | exact LeA.c (LeC.nils _ _) | (refine LeA.int ?_; omega) | (refine LeA.int ?_; dsimp only; omega) | exact LeA.c (LeC.fz rfl rfl (by first | rfl | omega) (fun i _ j _ => ⟨rfl, by first | rfl | exact rowN_imm (fun _ => rfl) _ i j | exact rowF_imm (fun _ => rfl) _ i j⟩))⟩, ?_⟩)
          · exact ⟨HeapOk.box rfl rfl ⟨LeC.int rfl, LeC.int rfl, LeC.nils _ _, trivial⟩ rfl, trivial⟩
      · have hB' : mkAll m px bl 0 M = false := by cases hh : mkAll m px bl 0 M; rfl; exact absurd hh hB
        have hE1 : apE ⟨Wn, Hn, n, d⟩ ⟨dx, dy, N, lo, M, bl, fr, ti⟩ = 1 := by rw [hEq, if_neg fun h => hB h.2.1]
        rw [apV, apI, hE1]
        rw [hB'] at hK2
        refine acalls_at Try.func25 rfl rfl Try.ntmps25 rfl ?_
        repeat (first
          | refine AWp.seq ?_
          | refine thenA_n ?_
          | refine AWp.skip ?_
          | refine AWp.ret ?_
          | refine thenA_r ?_
          | refine AWp.condT rfl (by first | rfl | assumption | exact cmT) ?_
          | refine AWp.condF rfl (by first | rfl | assumption | exact cmF) ?_
          | (refine AWp.region (id := 0) ?_; refine AList.box rfl rfl rfl rfl rfl ?_; refine AList.box rfl rfl rfl rfl rfl ?_; refine AList.alloc tyOk rfl rfl rfl rfl rfl ?_; refine AList.assign rfl rfl rfl ?_; refine AList.nil ?_)
          | (refine AWp.region (id := 1) ?_; refine AList.loadA tyOk rfl rfl rfl rfl rfl rfl rfl oM oM ?_; refine AList.fieldPt tyOk rfl rfl rfl rfl rfl rfl rfl ?_; refine AList.load1 tyOk rfl rfl rfl rfl rfl rfl rfl oM oM ?_; refine AList.fieldPt tyOk rfl rfl rfl rfl rfl rfl rfl ?_; refine AList.load1 tyOk rfl rfl rfl rfl rfl rfl rfl oM oM ?_; refine AList.callT rfl rfl rfl rfl rfl Try.func62 rfl (by kernel_rfl) (hPut) (fun _ _ _ _ => rfl) ?_; refine AList.move rfl rfl rfl ?_; refine AList.extract rfl rfl rfl rfl ?_; refine AList.extract rfl rfl rfl rfl ?_; refine AList.alloc tyOk rfl rfl rfl rfl rfl ?_; refine AList.store tyOk rfl rfl rfl rfl rfl rfl rfl rfl oM oM ?_; refine AList.assign rfl rfl rfl ?_; refine AList.nil ?_)
          | (refine AWp.region (id := 2) ?_; refine AList.move rfl rfl rfl ?_; refine AList.cmp rfl rfl rfl rfl rfl ?_; refine AList.nil ?_)
          | (refine AWp.draw (id := 4) mixed ?_; refine AList.fieldPt tyOk rfl rfl rfl rfl rfl rfl rfl ?_; refine AList.load1 tyOk rfl rfl rfl rfl rfl rfl rfl oM oM ?_; refine AList.fieldPt tyOk rfl rfl rfl rfl rfl rfl rfl ?_; refine AList.load1 tyOk rfl rfl rfl rfl rfl rfl rfl oM oM ?_; refine AList.fieldPt tyOk rfl rfl rfl rfl rfl rfl rfl ?_; refine AList.load1 tyOk rfl rfl rfl rfl rfl rfl rfl oM oM ?_; refine AList.callTP [17] rfl rfl rfl rfl Try.func63 rfl (by kernel_rfl) (hCl) (⟨.inr ⟨17, m, 1, _, _, iF px, rfl, rfl, by simp, rfl, fun _ _ => cell1 ⟨rfl, rfl⟩⟩, trivial⟩) (fun _ _ _ _ => rfl) ?_; refine AList.buildSt tyOk rfl rfl rfl rfl rfl rfl rfl rfl ?_; refine AList.alloc tyOk rfl rfl rfl rfl rfl ?_; refine AList.store tyOk rfl rfl rfl rfl rfl rfl rfl rfl oM oM ?_; refine AList.nil ⟨by kernel_rfl, ?_⟩)
          | (refine AWp.region (id := 5) ?_; refine AList.loadA tyOk rfl rfl rfl rfl rfl rfl rfl oM oM ?_; refine AList.fieldPt tyOk rfl rfl rfl rfl rfl rfl rfl ?_; refine AList.load1 tyOk rfl rfl rfl rfl rfl rfl rfl oM oM ?_; refine AList.callH [17] [rowI m px] [rowI m (setL px lo 0 N)] rfl rfl rfl Try.func64 rfl (by kernel_rfl) (LendOk.row rfl hm0 (fun _ _ => cell1 ⟨rfl, rfl⟩) trivial) rfl (LendImm.row (fun _ _ => cell1 rfl) trivial) (hK1) ?_; refine AList.notB rfl rfl rfl ?_; refine AList.move rfl rfl rfl ?_; refine AList.loadA tyOk rfl rfl rfl rfl rfl rfl rfl oM oM ?_; refine AList.fieldPt tyOk rfl rfl rfl rfl rfl rfl rfl ?_; refine AList.load1 tyOk rfl rfl rfl rfl rfl rfl rfl oM oM ?_; refine AList.callH [30] [rowI m px] [rowI m (mkPx m px bl 0 1 M)] rfl rfl rfl Try.func64 rfl (by kernel_rfl) (LendOk.row rfl hm0 (fun _ _ => cell1 ⟨rfl, rfl⟩) trivial) rfl (LendImm.row (fun _ _ => cell1 rfl) trivial) (hK2) ?_; refine AList.notB rfl rfl rfl ?_; refine AList.pickF rfl rfl rfl rfl ?_; refine AList.move rfl rfl rfl ?_; refine AList.skip rfl rfl ?_; refine AList.skip rfl rfl ?_; refine AList.skip rfl rfl ?_; refine AList.pickT rfl rfl rfl rfl ?_; refine AList.move rfl rfl rfl ?_; refine AList.skip rfl rfl ?_; refine AList.skip rfl rfl ?_; refine AList.skip rfl rfl ?_; refine AList.skip rfl rfl ?_; refine AList.skip rfl rfl ?_; refine AList.pickT rfl rfl rfl rfl ?_; refine AList.move rfl rfl rfl ?_; refine AList.skip rfl rfl ?_; refine AList.skip rfl rfl ?_; refine AList.skip rfl rfl ?_; refine AList.skip rfl rfl ?_; refine AList.skip rfl rfl ?_; refine AList.pickT rfl rfl rfl rfl ?_; refine AList.nil ?_)
          | (refine AWp.region (id := 6) ?_; refine AList.buildSt tyOk rfl rfl rfl rfl rfl rfl rfl rfl ?_; refine AList.store tyOk rfl rfl rfl rfl rfl rfl rfl rfl oM oM ?_; refine AList.assign rfl rfl rfl ?_; refine AList.nil ?_))
        refine ⟨mkSt 82 [(4, .c (.pt 4 3 0 0)), (5, .c (iC (1)))] [(4, ⟨false, 1, 3, 52, lF (imgV 0 0 0 fun _ => 0)⟩)] [4], [(4, ⟨false, 1, 3, 52, lF (imgV 0 0 0 fun _ => 0)⟩)], Wk.mk [(4, some 4)] rfl rfl rfl ?_ ?_, rfl, rfl, ARets.two (x := .ag _) (y := .c _) (ARes.box tyOk rfl rfl rfl rfl rfl rfl rfl) (ARes.tmp rfl rfl)⟩
        · repeat (first | exact trivial | refine ⟨⟨_, rfl, by first | exact LeA.c (LeC.refl _ rfl) | exact LeA.c (LeC.ow _ _ rfl) | exact LeA.c (LeC.pt _ _ _ _ _ rfl) | exact LeA.c (LeC.nil _ rfl) | exact LeA.c (LeC.nils _ _) | (refine LeA.int ?_; omega) | (refine LeA.int ?_; dsimp only; omega) | exact LeA.c (LeC.fz rfl rfl (by first | rfl | omega) (fun i _ j _ => ⟨rfl, by first | rfl | exact rowN_imm (fun _ => rfl) _ i j | exact rowF_imm (fun _ => rfl) _ i j⟩))⟩, ?_⟩)
        · exact ⟨HeapOk.box rfl rfl ⟨LeC.int rfl, LeC.int rfl, LeC.nils _ _, trivial⟩ rfl, trivial⟩
    · have hA' : mkAll m px lo 1 N = false := by cases hh : mkAll m px lo 1 N; rfl; exact absurd hh hA
      have hE1 : apE ⟨Wn, Hn, n, d⟩ ⟨dx, dy, N, lo, M, bl, fr, ti⟩ = 1 := by rw [hEq, if_neg fun h => hA h.1]
      rw [apV, apI, hE1]
      rw [hA'] at hK1
      refine acalls_at Try.func25 rfl rfl Try.ntmps25 rfl ?_
      repeat (first
        | refine AWp.seq ?_
        | refine thenA_n ?_
        | refine AWp.skip ?_
        | refine AWp.ret ?_
        | refine thenA_r ?_
        | refine AWp.condT rfl (by first | rfl | assumption | exact cmT) ?_
        | refine AWp.condF rfl (by first | rfl | assumption | exact cmF) ?_
        | (refine AWp.region (id := 0) ?_; refine AList.box rfl rfl rfl rfl rfl ?_; refine AList.box rfl rfl rfl rfl rfl ?_; refine AList.alloc tyOk rfl rfl rfl rfl rfl ?_; refine AList.assign rfl rfl rfl ?_; refine AList.nil ?_)
        | (refine AWp.region (id := 1) ?_; refine AList.loadA tyOk rfl rfl rfl rfl rfl rfl rfl oM oM ?_; refine AList.fieldPt tyOk rfl rfl rfl rfl rfl rfl rfl ?_; refine AList.load1 tyOk rfl rfl rfl rfl rfl rfl rfl oM oM ?_; refine AList.fieldPt tyOk rfl rfl rfl rfl rfl rfl rfl ?_; refine AList.load1 tyOk rfl rfl rfl rfl rfl rfl rfl oM oM ?_; refine AList.callT rfl rfl rfl rfl rfl Try.func62 rfl (by kernel_rfl) (hPut) (fun _ _ _ _ => rfl) ?_; refine AList.move rfl rfl rfl ?_; refine AList.extract rfl rfl rfl rfl ?_; refine AList.extract rfl rfl rfl rfl ?_; refine AList.alloc tyOk rfl rfl rfl rfl rfl ?_; refine AList.store tyOk rfl rfl rfl rfl rfl rfl rfl rfl oM oM ?_; refine AList.assign rfl rfl rfl ?_; refine AList.nil ?_)
        | (refine AWp.region (id := 2) ?_; refine AList.move rfl rfl rfl ?_; refine AList.cmp rfl rfl rfl rfl rfl ?_; refine AList.nil ?_)
        | (refine AWp.draw (id := 4) mixed ?_; refine AList.fieldPt tyOk rfl rfl rfl rfl rfl rfl rfl ?_; refine AList.load1 tyOk rfl rfl rfl rfl rfl rfl rfl oM oM ?_; refine AList.fieldPt tyOk rfl rfl rfl rfl rfl rfl rfl ?_; refine AList.load1 tyOk rfl rfl rfl rfl rfl rfl rfl oM oM ?_; refine AList.fieldPt tyOk rfl rfl rfl rfl rfl rfl rfl ?_; refine AList.load1 tyOk rfl rfl rfl rfl rfl rfl rfl oM oM ?_; refine AList.callTP [17] rfl rfl rfl rfl Try.func63 rfl (by kernel_rfl) (hCl) (⟨.inr ⟨17, m, 1, _, _, iF px, rfl, rfl, by simp, rfl, fun _ _ => cell1 ⟨rfl, rfl⟩⟩, trivial⟩) (fun _ _ _ _ => rfl) ?_; refine AList.buildSt tyOk rfl rfl rfl rfl rfl rfl rfl rfl ?_; refine AList.alloc tyOk rfl rfl rfl rfl rfl ?_; refine AList.store tyOk rfl rfl rfl rfl rfl rfl rfl rfl oM oM ?_; refine AList.nil ⟨by kernel_rfl, ?_⟩)
        | (refine AWp.region (id := 5) ?_; refine AList.loadA tyOk rfl rfl rfl rfl rfl rfl rfl oM oM ?_; refine AList.fieldPt tyOk rfl rfl rfl rfl rfl rfl rfl ?_; refine AList.load1 tyOk rfl rfl rfl rfl rfl rfl rfl oM oM ?_; refine AList.callH [17] [rowI m px] [rowI m (mkPx m px lo 1 0 N)] rfl rfl rfl Try.func64 rfl (by kernel_rfl) (LendOk.row rfl hm0 (fun _ _ => cell1 ⟨rfl, rfl⟩) trivial) rfl (LendImm.row (fun _ _ => cell1 rfl) trivial) (hK1) ?_; refine AList.notB rfl rfl rfl ?_; refine AList.move rfl rfl rfl ?_; refine AList.skip rfl rfl ?_; refine AList.skip rfl rfl ?_; refine AList.skip rfl rfl ?_; refine AList.skip rfl rfl ?_; refine AList.skip rfl rfl ?_; refine AList.pickT rfl rfl rfl rfl ?_; refine AList.move rfl rfl rfl ?_; refine AList.skip rfl rfl ?_; refine AList.skip rfl rfl ?_; refine AList.skip rfl rfl ?_; refine AList.pickT rfl rfl rfl rfl ?_; refine AList.move rfl rfl rfl ?_; refine AList.skip rfl rfl ?_; refine AList.skip rfl rfl ?_; refine AList.skip rfl rfl ?_; refine AList.skip rfl rfl ?_; refine AList.skip rfl rfl ?_; refine AList.pickT rfl rfl rfl rfl ?_; refine AList.move rfl rfl rfl ?_; refine AList.skip rfl rfl ?_; refine AList.skip rfl rfl ?_; refine AList.skip rfl rfl ?_; refine AList.skip rfl rfl ?_; refine AList.skip rfl rfl ?_; refine AList.pickT rfl rfl rfl rfl ?_; refine AList.nil ?_)
        | (refine AWp.region (id := 6) ?_; refine AList.buildSt tyOk rfl rfl rfl rfl rfl rfl rfl rfl ?_; refine AList.store tyOk rfl rfl rfl rfl rfl rfl rfl rfl oM oM ?_; refine AList.assign rfl rfl rfl ?_; refine AList.nil ?_))
      refine ⟨mkSt 82 [(4, .c (.pt 4 3 0 0)), (5, .c (iC (1)))] [(4, ⟨false, 1, 3, 52, lF (imgV 0 0 0 fun _ => 0)⟩)] [4], [(4, ⟨false, 1, 3, 52, lF (imgV 0 0 0 fun _ => 0)⟩)], Wk.mk [(4, some 4)] rfl rfl rfl ?_ ?_, rfl, rfl, ARets.two (x := .ag _) (y := .c _) (ARes.box tyOk rfl rfl rfl rfl rfl rfl rfl) (ARes.tmp rfl rfl)⟩
      · repeat (first | exact trivial | refine ⟨⟨_, rfl, by first | exact LeA.c (LeC.refl _ rfl) | exact LeA.c (LeC.ow _ _ rfl) | exact LeA.c (LeC.pt _ _ _ _ _ rfl) | exact LeA.c (LeC.nil _ rfl) | exact LeA.c (LeC.nils _ _) | (refine LeA.int ?_; omega) | (refine LeA.int ?_; dsimp only; omega) | exact LeA.c (LeC.fz rfl rfl (by first | rfl | omega) (fun i _ j _ => ⟨rfl, by first | rfl | exact rowN_imm (fun _ => rfl) _ i j | exact rowF_imm (fun _ => rfl) _ i j⟩))⟩, ?_⟩)
      · exact ⟨HeapOk.box rfl rfl ⟨LeC.int rfl, LeC.int rfl, LeC.nils _ _, trivial⟩ rfl, trivial⟩
  · have hE1 : apE ⟨W, H, n, d⟩ ⟨dx, dy, N, lo, M, bl, fr, ti⟩ = putE W H n dx dy := if_neg hp
    have hPut := iPut_A W H n d dx dy
    rw [putV, if_neg hp] at hPut
    rw [apV, apI, hE1, if_neg hp]
    refine acalls_at Try.func25 rfl rfl Try.ntmps25 rfl ?_
    repeat (first
      | refine AWp.seq ?_
      | refine thenA_n ?_
      | refine AWp.ret ?_
      | refine thenA_r ?_
      | refine AWp.condT rfl (by first | rfl | assumption | exact cmT) ?_
      | (refine AWp.region (id := 0) ?_; refine AList.box rfl rfl rfl rfl rfl ?_; refine AList.box rfl rfl rfl rfl rfl ?_; refine AList.alloc tyOk rfl rfl rfl rfl rfl ?_; refine AList.assign rfl rfl rfl ?_; refine AList.nil ?_)
      | (refine AWp.region (id := 1) ?_; refine AList.loadA tyOk rfl rfl rfl rfl rfl rfl rfl oM oM ?_; refine AList.fieldPt tyOk rfl rfl rfl rfl rfl rfl rfl ?_; refine AList.load1 tyOk rfl rfl rfl rfl rfl rfl rfl oM oM ?_; refine AList.fieldPt tyOk rfl rfl rfl rfl rfl rfl rfl ?_; refine AList.load1 tyOk rfl rfl rfl rfl rfl rfl rfl oM oM ?_; refine AList.call rfl rfl rfl rfl Try.func62 rfl (by kernel_rfl) (hPut) ?_; refine AList.move rfl rfl rfl ?_; refine AList.extract rfl rfl rfl rfl ?_; refine AList.extract rfl rfl rfl rfl ?_; refine AList.alloc tyOk rfl rfl rfl rfl rfl ?_; refine AList.store tyOk rfl rfl rfl rfl rfl rfl rfl rfl oM oM ?_; refine AList.assign rfl rfl rfl ?_; refine AList.nil ?_)
      | (refine AWp.region (id := 2) ?_; refine AList.move rfl rfl rfl ?_; refine AList.cmpT rfl rfl rfl rfl rfl cmT ?_; refine AList.nil ?_)
      | (refine AWp.region (id := 3) ?_; refine AList.buildSt tyOk rfl rfl rfl rfl rfl rfl rfl rfl ?_; refine AList.move rfl rfl rfl ?_; refine AList.store tyOk rfl rfl rfl rfl rfl rfl rfl rfl oM oM ?_; refine AList.assign rfl rfl rfl ?_; refine AList.nil ?_))
    refine ⟨mkSt 82 [(4, .c (.pt 4 3 0 0)), (5, .c (iC (putE W H n dx dy)))] [(4, ⟨false, 1, 3, 52, lF (imgV 0 0 0 fun _ => 0)⟩)] [4], [(4, ⟨false, 1, 3, 52, lF (imgV 0 0 0 fun _ => 0)⟩)], Wk.mk [(4, some 4)] rfl rfl rfl ?_ ?_, rfl, rfl, ARets.two (x := .ag _) (y := .c _) (ARes.box tyOk rfl rfl rfl rfl rfl rfl rfl) (ARes.tmp rfl rfl)⟩
    · repeat (first | exact trivial | refine ⟨⟨_, rfl, by first | exact LeA.c (LeC.refl _ rfl) | exact LeA.c (LeC.ow _ _ rfl) | exact LeA.c (LeC.pt _ _ _ _ _ rfl) | exact LeA.c (LeC.nil _ rfl) | exact LeA.c (LeC.nils _ _) | (refine LeA.int ?_; omega) | (refine LeA.int ?_; dsimp only; omega) | exact LeA.c (LeC.fz rfl rfl (by first | rfl | omega) (fun i _ j _ => ⟨rfl, by first | rfl | exact rowN_imm (fun _ => rfl) _ i j | exact rowF_imm (fun _ => rfl) _ i j⟩))⟩, ?_⟩)
    · exact ⟨HeapOk.box rfl rfl ⟨LeC.int rfl, LeC.int rfl, LeC.nils _ _, trivial⟩ rfl, trivial⟩
end Go.Proofs.Ytijaioiojclooaa
end
