/- Parts of the proof: A23f, A23g. -/
import Derived.Test.YtclaanggpcjnbaaG19
set_option linter.unusedSimpArgs false
set_option linter.unusedVariables false
section
/- Chapter 23 over plain values: image.Put with a row of the caller's own. -/
namespace Go.Proofs.Ytclaanggpcjnbaa
open Go.RowKit Go.Flow Go.AV Go.Plain
theorem bCheck_A (W H : Int) (n : Nat) (dot : Nat → Bool) : ACalls Try.prog 55 [.ag (bmpV W H n dot)] (.c (iC (chk W H n))) :=
  ACalls.old rfl fun O w vals h => by
    obtain ⟨x, rfl, h1⟩ := args1 h
    obtain ⟨A, c, rfl, -, hA⟩ := rep_bmp h1
    exact Check2_any W H A n c w
set_option maxHeartbeats 1000000 in
set_option maxRecDepth 100000 in
theorem iPut_T (Wn Hn n : Nat) (dot : Nat → Bool) (dx dy : Int) (hE : putE Wn Hn n dx dy = 0) :
    OTCalls Try.prog 38 [.ag (bmpV Wn Hn n dot), .c (iC dx), .c (iC dy)] (fun id => .tu [.ag ([iC ((Wn : Int) + 4), iC ((Hn : Int) + 4)] ++ .ow id :: []), .c (iC 0)]) (rowI ((Wn + 4) * (Hn + 4)) (putF Wn Hn dot dx dy)) := by
  unfold putE at hE
  split at hE
  case isFalse h => exact absurd hE h
  rename_i hok
  split at hE
  case isFalse => cases hE
  rename_i hs
  have hs' := shiftB_iff.1 hs
  obtain ⟨-, hW, -, hH, hn⟩ := okB hok
  have hc := bCheck_A Wn Hn n dot
  rw [hok] at hc
  obtain ⟨m, hm⟩ : ∃ m, m = (Wn + 4) * (Hn + 4) := ⟨_, rfl⟩
  have hm' : ((Wn : Int) + 4) * ((Hn : Int) + 4) = (m : Int) := by rw [hm]; simp
  have hmb : m ≤ 10000 := by rw [hm]; exact Nat.mul_le_mul (by omega : Wn + 4 ≤ 100) (by omega : Hn + 4 ≤ 100)
  have hnb : n ≤ 9216 := by
    have : n = Wn * Hn := by exact_mod_cast hn
    rw [this]; exact Nat.mul_le_mul (by omega : Wn ≤ 96) (by omega : Hn ≤ 96)
  rw [← hm]
  refine otcalls2_at tyOk Try.func38 rfl rfl Try.ntmps38 rfl rfl ?_
  repeat (first
    | refine AWp.seq ?_
    | refine thenA_n ?_
    | refine AWp.block ?_
    | refine AWp.skip ?_
    | refine AWp.condF rfl (by first | rfl | assumption | exact cmF) ?_
    | (refine AWp.region (id := 0) ?_
       refine AList.box rfl rfl rfl rfl rfl ?_
       refine AList.alloc tyOk rfl rfl rfl rfl rfl ?_
       refine AList.assign rfl rfl rfl ?_
       refine AList.nil ?_)
    | (refine AWp.region (id := 1) ?_
       refine AList.loadA tyOk rfl rfl rfl rfl rfl rfl rfl oM oM ?_
       refine AList.call rfl rfl rfl rfl Try.func55 rfl (by kernel_rfl) (hc) ?_
       refine AList.assign rfl rfl rfl ?_
       refine AList.nil ?_)
    | (refine AWp.region (id := 2) ?_
       refine AList.move rfl rfl rfl ?_
       refine AList.cmp rfl rfl rfl rfl rfl ?_
       refine AList.nil ?_)
    | (refine AWp.region (id := 4) ?_
       refine AList.move rfl rfl rfl ?_
       refine AList.move rfl rfl rfl ?_
       refine AList.maxI rfl rfl rfl rfl ?_
       refine AList.cmpF rfl rfl rfl rfl rfl cmF ?_
       refine AList.move rfl rfl rfl ?_
       refine AList.move rfl rfl rfl ?_
       refine AList.move rfl rfl rfl ?_
       refine AList.minI rfl rfl rfl rfl ?_
       refine AList.cmpF rfl rfl rfl rfl rfl cmF ?_
       refine AList.pickF rfl rfl rfl rfl ?_
       refine AList.nil ?_)
    | (refine AWp.region (id := 6) ?_
       refine AList.fieldPt tyOk rfl rfl rfl rfl rfl rfl rfl ?_
       refine AList.load1 tyOk rfl rfl rfl rfl rfl rfl rfl oM oM ?_
       refine AList.add rfl rfl rfl rfl (by omega) (by omega) ?_
       refine AList.fieldPt tyOk rfl rfl rfl rfl rfl rfl rfl ?_
       refine AList.load1 tyOk rfl rfl rfl rfl rfl rfl rfl oM oM ?_
       refine AList.add rfl rfl rfl rfl (by omega) (by omega) ?_
       refine AList.buildSt tyOk rfl rfl rfl rfl rfl rfl rfl rfl ?_
       refine AList.alloc tyOk rfl rfl rfl rfl rfl ?_
       refine AList.store tyOk rfl rfl rfl rfl rfl rfl rfl rfl oM oM ?_
       refine AList.nil ?_)
    | (refine AWp.region (id := 7) ?_
       refine AList.fieldPt tyOk rfl rfl rfl rfl rfl rfl rfl ?_
       refine AList.load1 tyOk rfl rfl rfl rfl rfl rfl rfl oM oM ?_
       refine AList.fieldPt tyOk rfl rfl rfl rfl rfl rfl rfl ?_
       refine AList.load1 tyOk rfl rfl rfl rfl rfl rfl rfl oM oM ?_
       refine AList.mul rfl rfl rfl rfl (by omega) (by omega) ?_
       refine AList.makeSl (n := m) tyOk rfl rfl rfl rfl rfl rfl rfl rfl rfl (by first | rfl | omega) (by first | rfl | omega) oM oM ?_
       refine AList.fieldPt tyOk rfl rfl rfl rfl rfl rfl rfl ?_
       refine AList.store tyOk rfl rfl rfl rfl rfl rfl rfl rfl oM oM ?_
       refine AList.nil ?_)
    | (refine AWp.region (id := 8) ?_
       refine AList.fieldPt tyOk rfl rfl rfl rfl rfl rfl rfl ?_
       refine AList.load1 tyOk rfl rfl rfl rfl rfl rfl rfl oM oM ?_
       refine AList.lenLs tyOk rfl rfl rfl rfl rfl ?_
       refine AList.move rfl rfl rfl ?_
       refine AList.nil ?_))
  refine AWp.round (fun k : Nat => mkSt 75 [(1, .c (iC dx)), (2, .c (iC dy)), (3, .c (.pt 3 3 0 0)), (6, .c (.pt 6 3 0 0)), (9, .c (.pt 9 3 0 0)), (44, .c (.ls n 1 (bF dot))), (45, .c (iC n)), (46, .c (iC k))]
    [(3, ⟨false, 1, 3, 39, lF (bmpV Wn Hn n dot)⟩), (6, ⟨false, 1, 3, 43, lF [iC 0, iC 0, .p (.slice none 0 0)]⟩), (9, ⟨false, 1, 3, 43, lF [iC ((Wn : Int) + 4), iC ((Hn : Int) + 4), .ow 41]⟩), (41, rowI m (putF Wn Hn (below k dot) dx dy))] [3, 6, 9, 41])
    (fun k => k ≤ n) (fun k => n - k) 0 (Nat.zero_le _) ?_ (fun k hk => ?_)
  · refine Wk.mk [(3, some 3), (6, some 6), (9, some 9), (41, some 41)] rfl rfl rfl ?_ ?_
    · repeat (first | exact trivial | refine ⟨⟨_, rfl, by first | exact LeA.c (LeC.refl _ rfl) | exact LeA.c (LeC.ow _ _ rfl) | exact LeA.c (LeC.pt _ _ _ _ _ rfl) | exact LeA.c (LeC.nil _ rfl) | exact LeA.c (LeC.nils _ _) | (refine LeA.int ?_; omega) | (refine LeA.int ?_; dsimp only; omega) | exact LeA.c (LeC.fz rfl rfl (by first | rfl | omega) (fun i _ j _ => ⟨rfl, by first | rfl | exact rowN_imm (fun _ => rfl) _ i j | exact rowF_imm (fun _ => rfl) _ i j⟩))⟩, ?_⟩)
    · exact ⟨HeapOk.same rfl rfl rfl rfl, HeapOk.same rfl rfl rfl rfl, HeapOk.box rfl rfl ⟨LeC.int rfl, LeC.int rfl, LeC.ow _ _ rfl, trivial⟩ rfl, HeapOk.row rfl rfl rfl (fun i _ => cell1 ⟨congrArg iC (putF_none _ _ _ _ _ i).symm, rfl⟩), trivial⟩
  · by_cases hlt : k < n
    · obtain ⟨t1, t2, t3, t4, t5, t6, t7⟩ := tgt_bd hn hs hlt
      by_cases hd : dot k = true
      · obtain ⟨j, hj⟩ := Int.eq_ofNat_of_zero_le t1
        have hset := putF_set hn hlt hd hs
        have hjm : j < m := by rw [hm'] at t2; omega
        have htg : ((k : Int) / Wn + 2 + dy) * ((Wn : Int) + 4) + (k : Int) % Wn + 2 + dx = (j : Int) := by rw [← hj]; unfold tgt; rfl
        have hq := mul_bd (n := (k : Int) / Wn + 2 + dy) (a := (Wn : Int) + 4) (A := 200) (B := 100) (by omega) (by omega) (by omega) (by omega)
        repeat (first
          | refine AWp.seq ?_
          | refine thenA_n ?_
          | refine AWp.block ?_
          | refine AWp.skip ?_
          | refine inBlk_n ?_
          | refine AWp.condT rfl (by first | rfl | assumption | exact cmT) ?_
          | (refine AWp.region (id := 9) ?_
             refine AList.cmpT rfl rfl rfl rfl rfl cmT ?_
             refine AList.nil ?_)
          | (refine AWp.region (id := 10) ?_
             refine AList.move rfl rfl rfl ?_
             refine AList.idx (k := k) tyOk rfl rfl rfl rfl rfl rfl rfl rfl (by first | rfl | omega) oM oM ?_
             refine AList.load1l tyOk rfl rfl rfl rfl rfl oM ?_
             refine AList.assign rfl rfl rfl ?_
             refine AList.assign rfl rfl rfl ?_
             refine AList.nil ?_)
          | (refine AWp.region (id := 11) ?_
             refine AList.move rfl rfl rfl ?_
             refine AList.nil ?_)
          | (refine AWp.draw (id := 12) mixed ?_
             refine AList.fieldPt tyOk rfl rfl rfl rfl rfl rfl rfl ?_
             refine AList.load1 tyOk rfl rfl rfl rfl rfl rfl rfl oM oM ?_
             refine AList.move rfl rfl rfl ?_
             refine AList.fieldPt tyOk rfl rfl rfl rfl rfl rfl rfl ?_
             refine AList.load1 tyOk rfl rfl rfl rfl rfl rfl rfl oM oM ?_
             refine AList.quo rfl rfl rfl rfl (by omega) (by omega) (by omega) ?_
             refine AList.add rfl rfl rfl rfl (by omega) (by omega) ?_
             refine AList.move rfl rfl rfl ?_
             refine AList.add rfl rfl rfl rfl (by omega) (by omega) ?_
             refine AList.fieldPt tyOk rfl rfl rfl rfl rfl rfl rfl ?_
             refine AList.load1 tyOk rfl rfl rfl rfl rfl rfl rfl oM oM ?_
             refine AList.mul rfl rfl rfl rfl (by omega) (by omega) ?_
             refine AList.move rfl rfl rfl ?_
             refine AList.fieldPt tyOk rfl rfl rfl rfl rfl rfl rfl ?_
             refine AList.load1 tyOk rfl rfl rfl rfl rfl rfl rfl oM oM ?_
             refine AList.rem rfl rfl rfl rfl (by omega) (by omega) ?_
             refine AList.add rfl rfl rfl rfl (by omega) (by omega) ?_
             refine AList.add rfl rfl rfl rfl (by omega) (by omega) ?_
             refine AList.move rfl rfl rfl ?_
             refine AList.add rfl rfl rfl rfl (by omega) (by omega) ?_
             refine AList.idxOw (k := j) tyOk rfl rfl rfl rfl rfl rfl rfl rfl rfl rfl (by first | rfl | omega) oM ?_
             refine AList.store tyOk rfl rfl rfl rfl rfl rfl rfl rfl oM oM ?_
             refine AList.nil ⟨by kernel_rfl, ?_⟩)
          | (refine AWp.region (id := 13) ?_
             refine AList.add rfl rfl rfl rfl (by omega) (by omega) ?_
             refine AList.move rfl rfl rfl ?_
             refine AList.nil ?_))
        refine ⟨k + 1, by omega, Wk.mk [(3, some 3), (6, some 6), (9, some 9), (41, some 41)] rfl rfl rfl ?_ ?_, by omega⟩
        · repeat (first | exact trivial | refine ⟨⟨_, rfl, by first | exact LeA.c (LeC.refl _ rfl) | exact LeA.c (LeC.ow _ _ rfl) | exact LeA.c (LeC.pt _ _ _ _ _ rfl) | exact LeA.c (LeC.nil _ rfl) | exact LeA.c (LeC.nils _ _) | (refine LeA.int ?_; omega) | (refine LeA.int ?_; dsimp only; omega) | exact LeA.c (LeC.fz rfl rfl (by first | rfl | omega) (fun i _ j _ => ⟨rfl, by first | rfl | exact rowN_imm (fun _ => rfl) _ i j | exact rowF_imm (fun _ => rfl) _ i j⟩))⟩, ?_⟩)
        · exact ⟨HeapOk.same rfl rfl rfl rfl, HeapOk.same rfl rfl rfl rfl, HeapOk.box rfl rfl ⟨LeC.int rfl, LeC.int rfl, LeC.ow _ _ rfl, trivial⟩ rfl, HeapOk.row rfl rfl rfl (set_one (putF Wn Hn (below (k + 1) dot) dx dy) (by rw [hset, if_pos hj.symm]) (fun i hi => by rw [hset, if_neg (by rw [hj]; omega)])), trivial⟩
      · have hd' : dot k = false := by cases h : dot k; rfl; exact absurd h hd
        have hskip := putF_skip hd' dx dy (W := Wn) (H := Hn)
        repeat (first
          | refine AWp.seq ?_
          | refine thenA_n ?_
          | refine AWp.block ?_
          | refine AWp.skip ?_
          | refine inBlk_n ?_
          | refine AWp.condT rfl (by first | rfl | assumption | exact cmT) ?_
          | refine AWp.condF rfl (by first | rfl | assumption | exact cmF) ?_
          | (refine AWp.region (id := 9) ?_
             refine AList.cmpT rfl rfl rfl rfl rfl cmT ?_
             refine AList.nil ?_)
          | (refine AWp.region (id := 10) ?_
             refine AList.move rfl rfl rfl ?_
             refine AList.idx (k := k) tyOk rfl rfl rfl rfl rfl rfl rfl rfl (by first | rfl | omega) oM oM ?_
             refine AList.load1l tyOk rfl rfl rfl rfl rfl oM ?_
             refine AList.assign rfl rfl rfl ?_
             refine AList.assign rfl rfl rfl ?_
             refine AList.nil ?_)
          | (refine AWp.region (id := 11) ?_
             refine AList.move rfl rfl rfl ?_
             refine AList.nil ?_)
          | (refine AWp.region (id := 13) ?_
             refine AList.add rfl rfl rfl rfl (by omega) (by omega) ?_
             refine AList.move rfl rfl rfl ?_
             refine AList.nil ?_))
        refine ⟨k + 1, by omega, Wk.mk [(3, some 3), (6, some 6), (9, some 9), (41, some 41)] rfl rfl rfl ?_ ?_, by omega⟩
        · repeat (first | exact trivial | refine ⟨⟨_, rfl, by first | exact LeA.c (LeC.refl _ rfl) | exact LeA.c (LeC.ow _ _ rfl) | exact LeA.c (LeC.pt _ _ _ _ _ rfl) | exact LeA.c (LeC.nil _ rfl) | exact LeA.c (LeC.nils _ _) | (refine LeA.int ?_; omega) | (refine LeA.int ?_; dsimp only; omega) | exact LeA.c (LeC.fz rfl rfl (by first | rfl | omega) (fun i _ j _ => ⟨rfl, by first | rfl | exact rowN_imm (fun _ => rfl) _ i j | exact rowF_imm (fun _ => rfl) _ i j⟩))⟩, ?_⟩)
        · exact ⟨HeapOk.same rfl rfl rfl rfl, HeapOk.same rfl rfl rfl rfl, HeapOk.box rfl rfl ⟨LeC.int rfl, LeC.int rfl, LeC.ow _ _ rfl, trivial⟩ rfl, HeapOk.row rfl rfl rfl (fun i _ => cell1 ⟨congrArg iC (hskip i).symm, rfl⟩), trivial⟩
    · obtain rfl : k = n := by omega
      repeat (first
        | refine AWp.seq ?_
        | refine thenA_n ?_
        | refine AWp.exit ?_
        | refine AWp.ret ?_
        | refine AWp.condF rfl (by first | rfl | assumption | exact cmF) ?_
        | (refine AWp.region (id := 9) ?_
           refine AList.cmpF rfl rfl rfl rfl rfl cmF ?_
           refine AList.nil ?_)
        | (refine AWp.region (id := 14) ?_
           refine AList.loadA tyOk rfl rfl rfl rfl rfl rfl rfl oM oM ?_
           refine AList.store tyOk rfl rfl rfl rfl rfl rfl rfl rfl oM oM ?_
           refine AList.assign rfl rfl rfl ?_
           refine AList.nil ?_))
      refine ⟨mkSt 75 [(6, .c (.pt 6 3 0 0)), (7, .c (iC 0))] [(6, ⟨false, 1, 3, 43, lF [iC ((Wn : Int) + 4), iC ((Hn : Int) + 4), .ow 41]⟩), (41, rowI m (putF Wn Hn dot dx dy))] [6, 41], Wk.mk [(6, some 6), (41, some 41)] rfl rfl rfl ?_ ?_, 6, 43, 6, 3, 43, _, 41, _, 7, rfl, rfl, rfl, rfl, rfl, rfl, rfl, rfl, rfl, rfl, fun _ _ _ _ => rfl⟩
      · repeat (first | exact trivial | refine ⟨⟨_, rfl, by first | exact LeA.c (LeC.refl _ rfl) | exact LeA.c (LeC.ow _ _ rfl) | exact LeA.c (LeC.pt _ _ _ _ _ rfl) | exact LeA.c (LeC.nil _ rfl) | exact LeA.c (LeC.nils _ _) | (refine LeA.int ?_; omega) | (refine LeA.int ?_; dsimp only; omega) | exact LeA.c (LeC.fz rfl rfl (by first | rfl | omega) (fun i _ j _ => ⟨rfl, by first | rfl | exact rowN_imm (fun _ => rfl) _ i j | exact rowF_imm (fun _ => rfl) _ i j⟩))⟩, ?_⟩)
      · exact ⟨HeapOk.box rfl rfl ⟨LeC.int rfl, LeC.int rfl, LeC.ow _ _ rfl, trivial⟩ rfl, HeapOk.row rfl rfl rfl (fun i _ => cell1 ⟨congrArg iC (putF_congr hn (below_all (Nat.le_refl _)) dx dy i), rfl⟩), trivial⟩
end Go.Proofs.Ytclaanggpcjnbaa
end

section
/- Chapter 23 over plain values: ref22.Put with a row of the caller's own. -/
namespace Go.Proofs.Ytclaanggpcjnbaa
open Go.RowKit Go.Flow Go.AV Go.Plain
theorem rbCheck_A (W H : Int) (n : Nat) (dot : Nat → Bool) : ACalls Try.prog 50 [.ag (bmpV W H n dot)] (.c (iC (chk W H n))) :=
  ACalls.old rfl fun O w vals h => by
    obtain ⟨x, rfl, h1⟩ := args1 h
    obtain ⟨A, c, rfl, -, hA⟩ := rep_bmp h1
    exact Check_any W H A n c w
theorem Get_A (W H : Int) (n : Nat) (dot : Nat → Bool) (x y : Int) (hok : chk W H n = 0) : ACalls Try.prog 52 [.ag (bmpV W H n dot), .c (iC x), .c (iC y)] (.c (bC (hasB W H dot x y))) :=
  ACalls.old rfl fun O w vals h => by
    obtain ⟨b, x1, y1, rfl, h1, h2, h3⟩ := args3 h
    obtain ⟨A, c, rfl, -, hA⟩ := rep_bmp h1
    cases rep_c h2
    cases rep_c h3
    exact Get_any W H A n c dot x y w hok hA
theorem shift_A (dx dy : Int) : ACalls Try.prog 51 [.c (iC dx), .c (iC dy)] (.c (bC (shiftB dx dy))) :=
  ACalls.old rfl fun O w vals h => by
    obtain ⟨x1, y1, rfl, h2, h3⟩ := args2 h
    cases rep_c h2
    cases rep_c h3
    exact (shift_any dx dy w).mono fun e w' ⟨g1, g2⟩ => ⟨g1, g2 ▸ Ext.refl w⟩
set_option maxHeartbeats 1000000 in
set_option maxRecDepth 100000 in
theorem rPut_T (Wn Hn n : Nat) (dot : Nat → Bool) (dx dy : Int) (hE : putE Wn Hn n dx dy = 0) :
    OTCalls Try.prog 33 [.ag (bmpV Wn Hn n dot), .c (iC dx), .c (iC dy)] (fun id => .tu [.ag ([iC ((Wn : Int) + 4), iC ((Hn : Int) + 4)] ++ .ow id :: []), .c (iC 0)]) (rowI ((Wn + 4) * (Hn + 4)) (putF Wn Hn dot dx dy)) := by
  unfold putE at hE
  split at hE
  case isFalse h => exact absurd hE h
  rename_i hok
  split at hE
  case isFalse => cases hE
  rename_i hs
  have hs' := shiftB_iff.1 hs
  obtain ⟨-, hW, -, hH, hn⟩ := okB hok
  have hc := rbCheck_A Wn Hn n dot
  rw [hok] at hc
  have hsh := shift_A dx dy
  rw [hs] at hsh
  refine otcalls2_at tyOk Try.func33 rfl rfl Try.ntmps33 rfl rfl ?_
  repeat (first
    | refine AWp.seq ?_
    | refine thenA_n ?_
    | refine AWp.block ?_
    | refine AWp.skip ?_
    | refine AWp.condF rfl (by first | rfl | assumption | exact cmF) ?_
    | (refine AWp.region (id := 0) ?_
       refine AList.box rfl rfl rfl rfl rfl ?_
       refine AList.alloc tyOk rfl rfl rfl rfl rfl ?_
       refine AList.assign rfl rfl rfl ?_
       refine AList.nil ?_)
    | (refine AWp.region (id := 1) ?_
       refine AList.loadA tyOk rfl rfl rfl rfl rfl rfl rfl oM oM ?_
       refine AList.call rfl rfl rfl rfl Try.func50 rfl (by kernel_rfl) (hc) ?_
       refine AList.assign rfl rfl rfl ?_
       refine AList.nil ?_)
    | (refine AWp.region (id := 2) ?_
       refine AList.move rfl rfl rfl ?_
       refine AList.cmp rfl rfl rfl rfl rfl ?_
       refine AList.nil ?_)
    | (refine AWp.region (id := 4) ?_
       refine AList.move rfl rfl rfl ?_
       refine AList.move rfl rfl rfl ?_
       refine AList.call rfl rfl rfl rfl Try.func51 rfl (by kernel_rfl) (hsh) ?_
       refine AList.notB rfl rfl rfl ?_
       refine AList.nil ?_)
    | (refine AWp.region (id := 6) ?_
       refine AList.fieldPt tyOk rfl rfl rfl rfl rfl rfl rfl ?_
       refine AList.load1 tyOk rfl rfl rfl rfl rfl rfl rfl oM oM ?_
       refine AList.add rfl rfl rfl rfl (by omega) (by omega) ?_
       refine AList.fieldPt tyOk rfl rfl rfl rfl rfl rfl rfl ?_
       refine AList.load1 tyOk rfl rfl rfl rfl rfl rfl rfl oM oM ?_
       refine AList.add rfl rfl rfl rfl (by omega) (by omega) ?_
       refine AList.buildSt tyOk rfl rfl rfl rfl rfl rfl rfl rfl ?_
       refine AList.alloc tyOk rfl rfl rfl rfl rfl ?_
       refine AList.store tyOk rfl rfl rfl rfl rfl rfl rfl rfl oM oM ?_
       refine AList.nil ?_)
    | (refine AWp.region (id := 7) ?_
       refine AList.assign rfl rfl rfl ?_
       refine AList.nil ?_))
  refine AWp.round (fun y : Nat => mkSt 60 [(1, .c (iC dx)), (2, .c (iC dy)), (3, .c (.pt 3 3 0 0)), (6, .c (.pt 6 3 0 0)), (9, .c (.pt 9 3 0 0)), (10, .c (iC y))]
    [(3, ⟨false, 1, 3, 39, lF (bmpV Wn Hn n dot)⟩), (6, ⟨false, 1, 3, 43, lF [iC 0, iC 0, .p (.slice none 0 0)]⟩), (9, ⟨false, 1, 3, 43, lF [iC ((Wn : Int) + 4), iC ((Hn : Int) + 4), .ow 20]⟩), (20, rowI (y * (Wn + 4)) (putF Wn Hn dot dx dy))] [3, 6, 9, 20])
    (fun y => y ≤ Hn + 4) (fun y => Hn + 4 - y) 0 (Nat.zero_le _) ?_ (fun y hy => ?_)
  · refine Wk.mk [(3, some 3), (6, some 6), (9, some 9), (20, none)] rfl rfl rfl ?_ ?_
    · repeat (first | exact trivial | refine ⟨⟨_, rfl, by first | exact LeA.c (LeC.refl _ rfl) | exact LeA.c (LeC.ow _ _ rfl) | exact LeA.c (LeC.pt _ _ _ _ _ rfl) | exact LeA.c (LeC.nil _ rfl) | exact LeA.c (LeC.nils _ _) | (refine LeA.int ?_; omega) | (refine LeA.int ?_; dsimp only; omega) | exact LeA.c (LeC.fz rfl rfl (by first | rfl | omega) (fun i _ j _ => ⟨rfl, by first | rfl | exact rowN_imm (fun _ => rfl) _ i j | exact rowF_imm (fun _ => rfl) _ i j⟩))⟩, ?_⟩)
    · exact ⟨HeapOk.same rfl rfl rfl rfl, HeapOk.same rfl rfl rfl rfl, HeapOk.box rfl rfl ⟨LeC.int rfl, LeC.int rfl, LeC.nil _ rfl, trivial⟩ rfl, HeapOk.nil rfl (Nat.zero_mul _), trivial⟩
  · by_cases hlty : y < Hn + 4
    · repeat (first
        | refine AWp.seq ?_
        | refine thenA_n ?_
        | refine AWp.block ?_
        | refine AWp.skip ?_
        | refine AWp.condT rfl (by first | rfl | assumption | exact cmT) ?_
        | (refine AWp.region (id := 8) ?_
           refine AList.move rfl rfl rfl ?_
           refine AList.fieldPt tyOk rfl rfl rfl rfl rfl rfl rfl ?_
           refine AList.load1 tyOk rfl rfl rfl rfl rfl rfl rfl oM oM ?_
           refine AList.cmpT rfl rfl rfl rfl rfl cmT ?_
           refine AList.nil ?_)
        | (refine AWp.region (id := 10) ?_
           refine AList.assign rfl rfl rfl ?_
           refine AList.nil ?_))
      refine AWp.round (fun s : Nat × Nat => mkSt 60 [(1, .c (iC dx)), (2, .c (iC dy)), (3, .c (.pt 3 3 0 0)), (6, .c (.pt 6 3 0 0)), (9, .c (.pt 9 3 0 0)), (10, .c (iC y)), (11, .c (iC s.1))]
        [(3, ⟨false, 1, 3, 39, lF (bmpV Wn Hn n dot)⟩), (6, ⟨false, 1, 3, 43, lF [iC 0, iC 0, .p (.slice none 0 0)]⟩), (9, ⟨false, 1, 3, 43, lF [iC ((Wn : Int) + 4), iC ((Hn : Int) + 4), .ow 20]⟩), (20, rowI s.2 (putF Wn Hn dot dx dy))] [3, 6, 9, 20])
        (fun s => s.1 ≤ Wn + 4 ∧ s.2 = y * (Wn + 4) + s.1) (fun s => Wn + 4 - s.1) (0, y * (Wn + 4)) ⟨Nat.zero_le _, rfl⟩ ?_ (fun s hs => ?_)
      · refine Wk.mk [(3, some 3), (6, some 6), (9, some 9), (20, some 20)] rfl rfl rfl ?_ ?_
        · repeat (first | exact trivial | refine ⟨⟨_, rfl, by first | exact LeA.c (LeC.refl _ rfl) | exact LeA.c (LeC.ow _ _ rfl) | exact LeA.c (LeC.pt _ _ _ _ _ rfl) | exact LeA.c (LeC.nil _ rfl) | exact LeA.c (LeC.nils _ _) | (refine LeA.int ?_; omega) | (refine LeA.int ?_; dsimp only; omega) | exact LeA.c (LeC.fz rfl rfl (by first | rfl | omega) (fun i _ j _ => ⟨rfl, by first | rfl | exact rowN_imm (fun _ => rfl) _ i j | exact rowF_imm (fun _ => rfl) _ i j⟩))⟩, ?_⟩)
        · exact ⟨HeapOk.same rfl rfl rfl rfl, HeapOk.same rfl rfl rfl rfl, HeapOk.box rfl rfl ⟨LeC.int rfl, LeC.int rfl, LeC.ow _ _ rfl, trivial⟩ rfl, HeapOk.row rfl rfl rfl (fun i _ => cell1 ⟨rfl, rfl⟩), trivial⟩
      · obtain ⟨x, cc⟩ := s
        obtain ⟨hx, hcc⟩ := hs
        dsimp only at hx hcc
        dsimp only
        have hyb : y * (Wn + 4) ≤ 100 * 100 := Nat.mul_le_mul (by omega) (by omega)
        by_cases hltx : x < Wn + 4
        · have hG := Get_A Wn Hn n dot ((x : Int) - 2 - dx) ((y : Int) - 2 - dy) hok
          have hat := putF_at (Wn := Wn) (H := Hn) (dot := dot) (dx := dx) (dy := dy) (x := x) (y := y) hltx
          rw [← hcc] at hat
          cases hb : hasB Wn Hn dot ((x : Int) - 2 - dx) ((y : Int) - 2 - dy)
          all_goals
            rw [hb] at hG hat
            simp only [Bool.false_eq_true, if_true, if_false] at hat
            repeat (first
              | refine AWp.seq ?_
              | refine thenA_n ?_
              | refine AWp.block ?_
              | refine AWp.skip ?_
              | refine inBlk_n ?_
              | refine AWp.condT rfl (by first | rfl | assumption | exact cmT) ?_
              | refine AWp.condF rfl (by first | rfl | assumption | exact cmF) ?_
              | (refine AWp.region (id := 11) ?_
                 refine AList.move rfl rfl rfl ?_
                 refine AList.fieldPt tyOk rfl rfl rfl rfl rfl rfl rfl ?_
                 refine AList.load1 tyOk rfl rfl rfl rfl rfl rfl rfl oM oM ?_
                 refine AList.cmpT rfl rfl rfl rfl rfl cmT ?_
                 refine AList.nil ?_)
              | (refine AWp.region (id := 12) ?_
                 refine AList.move rfl rfl rfl ?_
                 refine AList.add rfl rfl rfl rfl (by omega) (by omega) ?_
                 refine AList.assign rfl rfl rfl ?_
                 refine AList.nil ?_)
              | (refine AWp.region (id := 13) ?_
                 refine AList.assign rfl rfl rfl ?_
                 refine AList.nil ?_)
              | (refine AWp.region (id := 14) ?_
                 refine AList.loadA tyOk rfl rfl rfl rfl rfl rfl rfl oM oM ?_
                 refine AList.move rfl rfl rfl ?_
                 refine AList.sub rfl rfl rfl rfl (by omega) (by omega) ?_
                 refine AList.move rfl rfl rfl ?_
                 refine AList.sub rfl rfl rfl rfl (by omega) (by omega) ?_
                 refine AList.move rfl rfl rfl ?_
                 refine AList.sub rfl rfl rfl rfl (by omega) (by omega) ?_
                 refine AList.move rfl rfl rfl ?_
                 refine AList.sub rfl rfl rfl rfl (by omega) (by omega) ?_
                 refine AList.call rfl rfl rfl rfl Try.func52 rfl (by kernel_rfl) (hG) ?_
                 refine AList.nil ?_)
              | (refine AWp.region (id := 15) ?_
                 refine AList.assign rfl rfl rfl ?_
                 refine AList.nil ?_)
              | (refine AWp.region (id := 16) ?_
                 refine AList.fieldPt tyOk rfl rfl rfl rfl rfl rfl rfl ?_
                 refine AList.load1 tyOk rfl rfl rfl rfl rfl rfl rfl oM oM ?_
                 refine AList.move rfl rfl rfl ?_
                 refine AList.litSl tyOk rfl rfl rfl rfl rfl rfl rfl rfl rfl rfl rfl ?_
                 refine AList.appL tyOk rfl rfl rfl rfl rfl rfl rfl rfl rfl rfl oM oM ?_
                 refine AList.fieldPt tyOk rfl rfl rfl rfl rfl rfl rfl ?_
                 refine AList.store tyOk rfl rfl rfl rfl rfl rfl rfl rfl oM oM ?_
                 refine AList.nil ?_))
            refine ⟨(x + 1, cc + 1), ⟨by dsimp only; omega, by dsimp only; omega⟩, Wk.mk [(3, some 3), (6, some 6), (9, some 9), (20, some 57)] rfl rfl rfl ?_ ?_, by dsimp only; omega⟩
            · repeat (first | exact trivial | refine ⟨⟨_, rfl, by first | exact LeA.c (LeC.refl _ rfl) | exact LeA.c (LeC.ow _ _ rfl) | exact LeA.c (LeC.pt _ _ _ _ _ rfl) | exact LeA.c (LeC.nil _ rfl) | exact LeA.c (LeC.nils _ _) | (refine LeA.int ?_; omega) | (refine LeA.int ?_; dsimp only; omega) | exact LeA.c (LeC.fz rfl rfl (by first | rfl | omega) (fun i _ j _ => ⟨rfl, by first | rfl | exact rowN_imm (fun _ => rfl) _ i j | exact rowF_imm (fun _ => rfl) _ i j⟩))⟩, ?_⟩)
            · exact ⟨HeapOk.same rfl rfl rfl rfl, HeapOk.same rfl rfl rfl rfl, HeapOk.box rfl rfl ⟨LeC.int rfl, LeC.int rfl, LeC.ow _ _ rfl, trivial⟩ rfl, HeapOk.row rfl rfl rfl (app_one (g' := fun i => iC (putF Wn Hn dot dx dy i)) (fun i hi => rfl) (congrArg iC hat.symm) fun _ _ => rfl), trivial⟩
        · obtain rfl : x = Wn + 4 := by omega
          have hcc' : cc = (y + 1) * (Wn + 4) := by rw [hcc, Nat.add_mul, Nat.one_mul]
          repeat (first
            | refine AWp.seq ?_
            | refine thenA_n ?_
            | refine AWp.exit ?_
            | refine thenA_e ?_
            | refine inBlk_n ?_
            | refine inBlk_hit ?_
            | refine AWp.condF rfl (by first | rfl | assumption | exact cmF) ?_
            | (refine AWp.region (id := 9) ?_
               refine AList.move rfl rfl rfl ?_
               refine AList.add rfl rfl rfl rfl (by omega) (by omega) ?_
               refine AList.assign rfl rfl rfl ?_
               refine AList.nil ?_)
            | (refine AWp.region (id := 11) ?_
               refine AList.move rfl rfl rfl ?_
               refine AList.fieldPt tyOk rfl rfl rfl rfl rfl rfl rfl ?_
               refine AList.load1 tyOk rfl rfl rfl rfl rfl rfl rfl oM oM ?_
               refine AList.cmpF rfl rfl rfl rfl rfl cmF ?_
               refine AList.nil ?_))
          refine ⟨y + 1, by omega, Wk.mk [(3, some 3), (6, some 6), (9, some 9), (20, some 20)] rfl rfl rfl ?_ ?_, by omega⟩
          · repeat (first | exact trivial | refine ⟨⟨_, rfl, by first | exact LeA.c (LeC.refl _ rfl) | exact LeA.c (LeC.ow _ _ rfl) | exact LeA.c (LeC.pt _ _ _ _ _ rfl) | exact LeA.c (LeC.nil _ rfl) | exact LeA.c (LeC.nils _ _) | (refine LeA.int ?_; omega) | (refine LeA.int ?_; dsimp only; omega) | exact LeA.c (LeC.fz rfl rfl (by first | rfl | omega) (fun i _ j _ => ⟨rfl, by first | rfl | exact rowN_imm (fun _ => rfl) _ i j | exact rowF_imm (fun _ => rfl) _ i j⟩))⟩, ?_⟩)
          · exact ⟨HeapOk.same rfl rfl rfl rfl, HeapOk.same rfl rfl rfl rfl, HeapOk.box rfl rfl ⟨LeC.int rfl, LeC.int rfl, LeC.ow _ _ rfl, trivial⟩ rfl, HeapOk.row rfl rfl hcc'.symm (fun i _ => cell1 ⟨rfl, rfl⟩), trivial⟩
    · obtain rfl : y = Hn + 4 := by omega
      repeat (first
        | refine AWp.seq ?_
        | refine thenA_n ?_
        | refine AWp.exit ?_
        | refine AWp.ret ?_
        | refine AWp.condF rfl (by first | rfl | assumption | exact cmF) ?_
        | (refine AWp.region (id := 8) ?_
           refine AList.move rfl rfl rfl ?_
           refine AList.fieldPt tyOk rfl rfl rfl rfl rfl rfl rfl ?_
           refine AList.load1 tyOk rfl rfl rfl rfl rfl rfl rfl oM oM ?_
           refine AList.cmpF rfl rfl rfl rfl rfl cmF ?_
           refine AList.nil ?_)
        | (refine AWp.region (id := 17) ?_
           refine AList.loadA tyOk rfl rfl rfl rfl rfl rfl rfl oM oM ?_
           refine AList.store tyOk rfl rfl rfl rfl rfl rfl rfl rfl oM oM ?_
           refine AList.assign rfl rfl rfl ?_
           refine AList.nil ?_))
      refine ⟨mkSt 60 [(6, .c (.pt 6 3 0 0)), (7, .c (iC 0))] [(6, ⟨false, 1, 3, 43, lF [iC ((Wn : Int) + 4), iC ((Hn : Int) + 4), .ow 20]⟩), (20, rowI ((Wn + 4) * (Hn + 4)) (putF Wn Hn dot dx dy))] [6, 20], Wk.mk [(6, some 6), (20, some 20)] rfl rfl rfl ?_ ?_, 6, 43, 6, 3, 43, _, 20, _, 7, rfl, rfl, rfl, rfl, rfl, rfl, rfl, rfl, rfl, rfl, fun _ _ _ _ => rfl⟩
      · repeat (first | exact trivial | refine ⟨⟨_, rfl, by first | exact LeA.c (LeC.refl _ rfl) | exact LeA.c (LeC.ow _ _ rfl) | exact LeA.c (LeC.pt _ _ _ _ _ rfl) | exact LeA.c (LeC.nil _ rfl) | exact LeA.c (LeC.nils _ _) | (refine LeA.int ?_; omega) | (refine LeA.int ?_; dsimp only; omega) | exact LeA.c (LeC.fz rfl rfl (by first | rfl | omega) (fun i _ j _ => ⟨rfl, by first | rfl | exact rowN_imm (fun _ => rfl) _ i j | exact rowF_imm (fun _ => rfl) _ i j⟩))⟩, ?_⟩)
      · exact ⟨HeapOk.box rfl rfl ⟨LeC.int rfl, LeC.int rfl, LeC.ow _ _ rfl, trivial⟩ rfl, HeapOk.row rfl rfl (Nat.mul_comm _ _) (fun i _ => cell1 ⟨rfl, rfl⟩), trivial⟩
end Go.Proofs.Ytclaanggpcjnbaa
end
