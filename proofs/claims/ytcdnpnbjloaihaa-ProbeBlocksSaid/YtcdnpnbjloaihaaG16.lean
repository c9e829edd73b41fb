/- Parts of the proof: A22, RbUnk. -/
import Derived.Test.YtcdnpnbjloaihaaG13
import Derived.Test.YtcdnpnbjloaihaaG14
import Derived.Test.YtcdnpnbjloaihaaG15
import Derived.Test.YtcdnpnbjloaihaaProg
import Derived.Test.YtcdnpnbjloaihaaG12
set_option linter.unusedSimpArgs false
set_option linter.unusedVariables false
section
/- ref22 over plain values: Check, Put, Hide, Same; image.Put. No condition but those that each states. -/
namespace Go.Proofs.Ytcdnpnbjloaihaa
open Go.RowKit Go.Flow Go.AV Go.Plain
theorem rCheck_A (W H : Int) (n : Nat) (f : Nat → Int) (hn : n ≤ 4611686018427387904) : ACalls Try.prog 35 [.ag (imgV W H n f)] (.c (iC (chkI W H n f))) :=
  ACalls.old rfl fun O w vals h => by
    obtain ⟨x, rfl, h1⟩ := args1 h
    obtain ⟨A, c, rfl, -, hA⟩ := rep_img h1
    exact RCheck_any W H A n c f w hn hA
/-- Put's result. -/
abbrev putV (W H : Int) (n : Nat) (dot : Nat → Bool) (dx dy : Int) : AV :=
  if putE W H n dx dy = 0 then .tu [.ag (imgV (W + 4) (H + 4) ((W + 4) * (H + 4)).toNat (putF W H dot dx dy)), .c (iC 0)] else .tu [.ag (imgV 0 0 0 fun _ => 0), .c (iC (putE W H n dx dy))]
theorem put_rep {O : Nat → Prop} {w w' : World} {W H : Int} {n : Nat} {dot : Nat → Bool} {dx dy : Int} {e : Ending} (hO : ∀ b, O b → b < w.heap.size) (h : PutPost W H n dot dx dy w e w') : ∃ v, e = .returned v ∧ RepA (fun _ => none) O w' (putV W H n dot dx dy) v ∧ Ext w w' := by
  unfold putV
  rcases h with ⟨h1, h2, h3⟩ | ⟨h1, A, c, m, h2, ⟨h3, h4⟩, h5, h6⟩
  · rw [if_neg h1]
    exact ⟨_, h2, ⟨[_, _], rfl, ⟨[_, _, _], rfl, ⟨rfl, rfl⟩, ⟨rfl, rfl⟩, nil_rep, trivial⟩, ⟨rfl, rfl⟩, trivial⟩, h3⟩
  · rw [if_pos h1]
    refine ⟨_, h2, ⟨[_, _], rfl, ?_, ⟨rfl, rfl⟩, trivial⟩, h6⟩
    rw [← h4, Int.toNat_natCast]
    exact img_rep hO h3 h5
theorem rPut_A (W H : Int) (n : Nat) (dot : Nat → Bool) (dx dy : Int) : ACalls Try.prog 26 [.ag (bmpV W H n dot), .c (iC dx), .c (iC dy)] (putV W H n dot dx dy) :=
  ACalls.of fun O w vals hO h => by
    obtain ⟨x, y, z, rfl, h1, h2, h3⟩ := args3 h
    obtain ⟨A, c, rfl, -, hA⟩ := rep_bmp h1
    cases rep_c h2
    cases rep_c h3
    exact (RPut_any W H A n c dot dx dy w hA).mono fun e w' hp => put_rep hO hp
theorem iPut_A (W H : Int) (n : Nat) (dot : Nat → Bool) (dx dy : Int) : ACalls Try.prog 22 [.ag (bmpV W H n dot), .c (iC dx), .c (iC dy)] (putV W H n dot dx dy) :=
  ACalls.of fun O w vals hO h => by
    obtain ⟨x, y, z, rfl, h1, h2, h3⟩ := args3 h
    obtain ⟨A, c, rfl, -, hA⟩ := rep_bmp h1
    cases rep_c h2
    cases rep_c h3
    exact (IPut_any W H A n c dot dx dy w hA).mono fun e w' hp => put_rep hO hp
theorem Same_A (W H W' H' : Int) (n m : Nat) (f g : Nat → Int) (hn : n ≤ 4611686018427387904) : ACalls Try.prog 18 [.ag (imgV W H n f), .ag (imgV W' H' m g)] (.c (bC (decide (W = W') && decide (H = H') && samePx n m f g))) :=
  ACalls.old rfl fun O w vals h => by
    obtain ⟨x, y, rfl, h1, h2⟩ := args2 h
    obtain ⟨A, c, rfl, -, hA⟩ := rep_img h1
    obtain ⟨B, d, rfl, -, hB⟩ := rep_img h2
    exact Same_any W H W' H' A B n m c d f g w hn hA hB

abbrev hideR (W : Int) (f : Nat → Int) (a b : Int) (n : Nat) : AB := ⟨true, n, 1, 3, iF (hideF W f a b)⟩
set_option maxRecDepth 100000 in
theorem Hide_O (Wn Hn n : Nat) (f : Nat → Int) (a b : Int) (hok : chkI Wn Hn n f = 0) :
    OCalls Try.prog 27 [.ag (imgV Wn Hn n f), .c (iC a), .c (iC b)] [iC Wn, iC Hn] [] (hideR Wn f a b n) := by
  have hsh := (chkI_ok.1 hok).1
  obtain ⟨-, hW, -, hH, hn⟩ := hsh
  have hn' : n = Wn * Hn := by exact_mod_cast hn
  have hnb : n ≤ 10000 := by subst hn'; exact Nat.mul_le_mul (by omega : Wn ≤ 100) (by omega : Hn ≤ 100)
  refine ocalls_at tyOk Try.func27 rfl rfl Try.ntmps27 rfl rfl ?_
  repeat (first
    | refine AWp.seq ?_
    | refine thenA_n ?_
    | refine AWp.block ?_
    | refine AWp.skip ?_
    | refine AWp.condF rfl (by first | rfl | exact cmF) ?_
    | (refine AWp.region (id := 0) ?_
       refine AList.box rfl rfl rfl rfl rfl ?_
       refine AList.alloc tyOk rfl rfl rfl rfl rfl ?_
       refine AList.nil ?_)
    | (refine AWp.region (id := 1) ?_
       refine AList.loadA tyOk rfl rfl rfl rfl rfl rfl rfl oM oM ?_
       refine AList.call rfl rfl rfl rfl Try.func35 rfl (by kernel_rfl) (rCheck_A Wn Hn n f (by omega)) ?_
       refine AList.cmpF rfl rfl rfl rfl rfl cmF ?_
       refine AList.nil ?_)
    | (refine AWp.region (id := 3) ?_
       refine AList.fieldPt tyOk rfl rfl rfl rfl rfl rfl rfl ?_
       refine AList.load1 tyOk rfl rfl rfl rfl rfl rfl rfl oM oM ?_
       refine AList.fieldPt tyOk rfl rfl rfl rfl rfl rfl rfl ?_
       refine AList.load1 tyOk rfl rfl rfl rfl rfl rfl rfl oM oM ?_
       refine AList.buildSt tyOk rfl rfl rfl rfl rfl rfl rfl rfl ?_
       refine AList.alloc tyOk rfl rfl rfl rfl rfl ?_
       refine AList.store tyOk rfl rfl rfl rfl rfl rfl rfl rfl oM oM ?_
       refine AList.nil ?_)
    | (refine AWp.region (id := 4) ?_
       refine AList.assign rfl rfl rfl ?_
       refine AList.nil ?_))
  refine AWp.round (fun k : Nat => mkSt 52 [(1, .c (iC a)), (2, .c (iC b)), (3, .c (.pt 3 3 0 0)), (6, .c (.pt 6 3 0 0)), (7, .c (.pt 7 3 0 0)), (8, .c (iC k))]
    [(3, ⟨false, 1, 3, 27, lF (imgV Wn Hn n f)⟩), (6, ⟨false, 1, 3, 27, lF [iC 0, iC 0, .p (.slice none 0 0)]⟩), (7, ⟨false, 1, 3, 27, lF [iC Wn, iC Hn, .ow 9]⟩), (9, hideR Wn f a b k)] [3, 6, 7, 9])
    (fun k => k ≤ n) (fun k => n - k) 0 (Nat.zero_le _) ?_ (fun k hk => ?_)
  · refine Wk.mk [(3, some 3), (6, some 6), (7, some 7), (9, none)] rfl rfl rfl ?_ ?_
    · repeat (first | exact trivial | refine ⟨⟨_, rfl, by first | exact LeA.c (LeC.refl _ rfl) | exact LeA.c (LeC.ow _ _ rfl) | exact LeA.c (LeC.pt _ _ _ _ _ rfl) | exact LeA.c (LeC.nil _ rfl) | exact LeA.c (LeC.nils _ _) | (refine LeA.int ?_; omega) | (refine LeA.int ?_; dsimp only; omega) | exact LeA.c (LeC.fz rfl rfl (by first | rfl | omega) (fun i _ j _ => ⟨rfl, by first | rfl | exact rowN_imm (fun _ => rfl) _ i j | exact rowF_imm (fun _ => rfl) _ i j⟩))⟩, ?_⟩)
    · repeat (first | exact trivial | refine ⟨by first | exact HeapOk.same rfl rfl rfl rfl | exact HeapOk.lent rfl rfl rfl rfl | exact HeapOk.nil rfl rfl | exact HeapOk.row rfl rfl (by first | rfl | omega) (fun i _ j _ => ⟨rfl, by first | rfl | exact rowN_imm (fun _ => rfl) _ i j | exact rowF_imm (fun _ => rfl) _ i j⟩) | exact HeapOk.box rfl rfl (by repeat (first | exact trivial | refine ⟨by first | exact LeC.refl _ rfl | exact LeC.ow _ _ rfl | exact LeC.nil _ rfl | exact LeC.nils _ _ | exact LeC.fz rfl rfl (by first | rfl | omega) (fun i _ j _ => ⟨rfl, by first | rfl | exact rowN_imm (fun _ => rfl) _ i j | exact rowF_imm (fun _ => rfl) _ i j⟩) | exact LeC.int (by omega), ?_⟩)) rfl, ?_⟩)
  · by_cases hlt : k < n
    · have hW0 : 0 < Wn := by
        rcases Nat.eq_zero_or_pos Wn with h | h
        · rw [h, Nat.zero_mul] at hn'; omega
        · exact h
      by_cases h1 : a ≤ (k : Int) % Wn
      · by_cases h2 : (k : Int) % Wn < b
        · repeat (first
            | refine AWp.seq ?_
            | refine thenA_n ?_
            | refine AWp.block ?_
            | refine AWp.skip ?_
            | refine inBlk_n ?_
            | refine AWp.condT rfl (by first | rfl | exact cmT) ?_
            | (refine AWp.region (id := 5) ?_
               refine AList.move rfl rfl rfl ?_
               refine AList.fieldPt tyOk rfl rfl rfl rfl rfl rfl rfl ?_
               refine AList.load1 tyOk rfl rfl rfl rfl rfl rfl rfl oM oM ?_
               refine AList.lenLs tyOk rfl rfl rfl rfl rfl ?_
               refine AList.cmpT rfl rfl rfl rfl rfl cmT ?_
               refine AList.nil ?_)
            | (refine AWp.region (id := 6) ?_
               refine AList.move rfl rfl rfl ?_
               refine AList.add rfl rfl rfl rfl (by omega) (by omega) ?_
               refine AList.assign rfl rfl rfl ?_
               refine AList.nil ?_)
            | (refine AWp.region (id := 7) ?_
               refine AList.fieldPt tyOk rfl rfl rfl rfl rfl rfl rfl ?_
               refine AList.load1 tyOk rfl rfl rfl rfl rfl rfl rfl oM oM ?_
               refine AList.move rfl rfl rfl ?_
               refine AList.idx tyOk rfl rfl rfl rfl rfl rfl rfl rfl rfl oM oM ?_
               refine AList.load1l tyOk rfl rfl rfl rfl rfl oM ?_
               refine AList.assign rfl rfl rfl ?_
               refine AList.nil ?_)
            | (refine AWp.region (id := 8) ?_
               refine AList.move rfl rfl rfl ?_
               refine AList.fieldPt tyOk rfl rfl rfl rfl rfl rfl rfl ?_
               refine AList.load1 tyOk rfl rfl rfl rfl rfl rfl rfl oM oM ?_
               refine AList.rem rfl rfl rfl rfl (by omega) (by omega) ?_
               refine AList.move rfl rfl rfl ?_
               refine AList.cmpT rfl rfl rfl rfl rfl cmT ?_
               refine AList.move rfl rfl rfl ?_
               refine AList.move rfl rfl rfl ?_
               refine AList.fieldPt tyOk rfl rfl rfl rfl rfl rfl rfl ?_
               refine AList.load1 tyOk rfl rfl rfl rfl rfl rfl rfl oM oM ?_
               refine AList.rem rfl rfl rfl rfl (by omega) (by omega) ?_
               refine AList.move rfl rfl rfl ?_
               refine AList.cmpT rfl rfl rfl rfl rfl cmT ?_
               refine AList.pickT rfl rfl rfl rfl ?_
               refine AList.nil ?_)
            | (refine AWp.region (id := 9) ?_
               refine AList.assign rfl rfl rfl ?_
               refine AList.nil ?_)
            | (refine AWp.region (id := 10) ?_
               refine AList.fieldPt tyOk rfl rfl rfl rfl rfl rfl rfl ?_
               refine AList.load1 tyOk rfl rfl rfl rfl rfl rfl rfl oM oM ?_
               refine AList.move rfl rfl rfl ?_
               refine AList.litSl tyOk rfl rfl rfl rfl rfl rfl rfl rfl rfl rfl rfl ?_
               refine AList.appL tyOk rfl rfl rfl rfl rfl rfl rfl rfl rfl rfl oM oM ?_
               refine AList.fieldPt tyOk rfl rfl rfl rfl rfl rfl rfl ?_
               refine AList.store tyOk rfl rfl rfl rfl rfl rfl rfl rfl oM oM ?_
               refine AList.nil ?_))
          refine ⟨k + 1, by omega, Wk.mk [(3, some 3), (6, some 6), (7, some 7), (9, some 49)] rfl rfl rfl ?_ ?_, by omega⟩
          · repeat (first | exact trivial | refine ⟨⟨_, rfl, by first | exact LeA.c (LeC.refl _ rfl) | exact LeA.c (LeC.ow _ _ rfl) | exact LeA.c (LeC.pt _ _ _ _ _ rfl) | exact LeA.c (LeC.nil _ rfl) | exact LeA.c (LeC.nils _ _) | (refine LeA.int ?_; omega) | (refine LeA.int ?_; dsimp only; omega) | exact LeA.c (LeC.fz rfl rfl (by first | rfl | omega) (fun i _ j _ => ⟨rfl, by first | rfl | exact rowN_imm (fun _ => rfl) _ i j | exact rowF_imm (fun _ => rfl) _ i j⟩))⟩, ?_⟩)
          · repeat (first | exact trivial | refine ⟨by first | exact HeapOk.same rfl rfl rfl rfl | exact HeapOk.lent rfl rfl rfl rfl | exact HeapOk.nil rfl rfl | exact HeapOk.row rfl rfl (by first | rfl | omega) (fun i _ j _ => ⟨rfl, by first | rfl | exact rowN_imm (fun _ => rfl) _ i j | exact rowF_imm (fun _ => rfl) _ i j⟩) | exact HeapOk.box rfl rfl (by repeat (first | exact trivial | refine ⟨by first | exact LeC.refl _ rfl | exact LeC.ow _ _ rfl | exact LeC.nil _ rfl | exact LeC.nils _ _ | exact LeC.fz rfl rfl (by first | rfl | omega) (fun i _ j _ => ⟨rfl, by first | rfl | exact rowN_imm (fun _ => rfl) _ i j | exact rowF_imm (fun _ => rfl) _ i j⟩) | exact LeC.int (by omega), ?_⟩)) rfl, ?_⟩)
            refine ⟨HeapOk.row rfl rfl rfl (app_one (g := fun i => iC (hideF Wn f a b i)) (fun i hi => rfl) ?_ fun _ _ => rfl), trivial⟩
            simp only [hideF]
            rw [if_pos ⟨h1, h2⟩]
        · repeat (first
            | refine AWp.seq ?_
            | refine thenA_n ?_
            | refine AWp.block ?_
            | refine AWp.skip ?_
            | refine inBlk_n ?_
            | refine AWp.condT rfl (by first | rfl | exact cmT) ?_
            | refine AWp.condF rfl (by first | rfl | exact cmF) ?_
            | (refine AWp.region (id := 5) ?_
               refine AList.move rfl rfl rfl ?_
               refine AList.fieldPt tyOk rfl rfl rfl rfl rfl rfl rfl ?_
               refine AList.load1 tyOk rfl rfl rfl rfl rfl rfl rfl oM oM ?_
               refine AList.lenLs tyOk rfl rfl rfl rfl rfl ?_
               refine AList.cmpT rfl rfl rfl rfl rfl cmT ?_
               refine AList.nil ?_)
            | (refine AWp.region (id := 6) ?_
               refine AList.move rfl rfl rfl ?_
               refine AList.add rfl rfl rfl rfl (by omega) (by omega) ?_
               refine AList.assign rfl rfl rfl ?_
               refine AList.nil ?_)
            | (refine AWp.region (id := 7) ?_
               refine AList.fieldPt tyOk rfl rfl rfl rfl rfl rfl rfl ?_
               refine AList.load1 tyOk rfl rfl rfl rfl rfl rfl rfl oM oM ?_
               refine AList.move rfl rfl rfl ?_
               refine AList.idx tyOk rfl rfl rfl rfl rfl rfl rfl rfl rfl oM oM ?_
               refine AList.load1l tyOk rfl rfl rfl rfl rfl oM ?_
               refine AList.assign rfl rfl rfl ?_
               refine AList.nil ?_)
            | (refine AWp.region (id := 8) ?_
               refine AList.move rfl rfl rfl ?_
               refine AList.fieldPt tyOk rfl rfl rfl rfl rfl rfl rfl ?_
               refine AList.load1 tyOk rfl rfl rfl rfl rfl rfl rfl oM oM ?_
               refine AList.rem rfl rfl rfl rfl (by omega) (by omega) ?_
               refine AList.move rfl rfl rfl ?_
               refine AList.cmpT rfl rfl rfl rfl rfl cmT ?_
               refine AList.move rfl rfl rfl ?_
               refine AList.move rfl rfl rfl ?_
               refine AList.fieldPt tyOk rfl rfl rfl rfl rfl rfl rfl ?_
               refine AList.load1 tyOk rfl rfl rfl rfl rfl rfl rfl oM oM ?_
               refine AList.rem rfl rfl rfl rfl (by omega) (by omega) ?_
               refine AList.move rfl rfl rfl ?_
               refine AList.cmpF rfl rfl rfl rfl rfl cmF ?_
               refine AList.pickT rfl rfl rfl rfl ?_
               refine AList.nil ?_)
            | (refine AWp.region (id := 10) ?_
               refine AList.fieldPt tyOk rfl rfl rfl rfl rfl rfl rfl ?_
               refine AList.load1 tyOk rfl rfl rfl rfl rfl rfl rfl oM oM ?_
               refine AList.move rfl rfl rfl ?_
               refine AList.litSl tyOk rfl rfl rfl rfl rfl rfl rfl rfl rfl rfl rfl ?_
               refine AList.appL tyOk rfl rfl rfl rfl rfl rfl rfl rfl rfl rfl oM oM ?_
               refine AList.fieldPt tyOk rfl rfl rfl rfl rfl rfl rfl ?_
               refine AList.store tyOk rfl rfl rfl rfl rfl rfl rfl rfl oM oM ?_
               refine AList.nil ?_))
          refine ⟨k + 1, by omega, Wk.mk [(3, some 3), (6, some 6), (7, some 7), (9, some 49)] rfl rfl rfl ?_ ?_, by omega⟩
          · repeat (first | exact trivial | refine ⟨⟨_, rfl, by first | exact LeA.c (LeC.refl _ rfl) | exact LeA.c (LeC.ow _ _ rfl) | exact LeA.c (LeC.pt _ _ _ _ _ rfl) | exact LeA.c (LeC.nil _ rfl) | exact LeA.c (LeC.nils _ _) | (refine LeA.int ?_; omega) | (refine LeA.int ?_; dsimp only; omega) | exact LeA.c (LeC.fz rfl rfl (by first | rfl | omega) (fun i _ j _ => ⟨rfl, by first | rfl | exact rowN_imm (fun _ => rfl) _ i j | exact rowF_imm (fun _ => rfl) _ i j⟩))⟩, ?_⟩)
          · repeat (first | exact trivial | refine ⟨by first | exact HeapOk.same rfl rfl rfl rfl | exact HeapOk.lent rfl rfl rfl rfl | exact HeapOk.nil rfl rfl | exact HeapOk.row rfl rfl (by first | rfl | omega) (fun i _ j _ => ⟨rfl, by first | rfl | exact rowN_imm (fun _ => rfl) _ i j | exact rowF_imm (fun _ => rfl) _ i j⟩) | exact HeapOk.box rfl rfl (by repeat (first | exact trivial | refine ⟨by first | exact LeC.refl _ rfl | exact LeC.ow _ _ rfl | exact LeC.nil _ rfl | exact LeC.nils _ _ | exact LeC.fz rfl rfl (by first | rfl | omega) (fun i _ j _ => ⟨rfl, by first | rfl | exact rowN_imm (fun _ => rfl) _ i j | exact rowF_imm (fun _ => rfl) _ i j⟩) | exact LeC.int (by omega), ?_⟩)) rfl, ?_⟩)
            refine ⟨HeapOk.row rfl rfl rfl (app_one (g := fun i => iC (hideF Wn f a b i)) (fun i hi => rfl) ?_ fun _ _ => rfl), trivial⟩
            simp only [hideF]
            rw [if_neg (fun h => h2 h.2)]
      · repeat (first
          | refine AWp.seq ?_
          | refine thenA_n ?_
          | refine AWp.block ?_
          | refine AWp.skip ?_
          | refine inBlk_n ?_
          | refine AWp.condT rfl (by first | rfl | exact cmT) ?_
          | refine AWp.condF rfl (by first | rfl | exact cmF) ?_
          | (refine AWp.region (id := 5) ?_
             refine AList.move rfl rfl rfl ?_
             refine AList.fieldPt tyOk rfl rfl rfl rfl rfl rfl rfl ?_
             refine AList.load1 tyOk rfl rfl rfl rfl rfl rfl rfl oM oM ?_
             refine AList.lenLs tyOk rfl rfl rfl rfl rfl ?_
             refine AList.cmpT rfl rfl rfl rfl rfl cmT ?_
             refine AList.nil ?_)
          | (refine AWp.region (id := 6) ?_
             refine AList.move rfl rfl rfl ?_
             refine AList.add rfl rfl rfl rfl (by omega) (by omega) ?_
             refine AList.assign rfl rfl rfl ?_
             refine AList.nil ?_)
          | (refine AWp.region (id := 7) ?_
             refine AList.fieldPt tyOk rfl rfl rfl rfl rfl rfl rfl ?_
             refine AList.load1 tyOk rfl rfl rfl rfl rfl rfl rfl oM oM ?_
             refine AList.move rfl rfl rfl ?_
             refine AList.idx tyOk rfl rfl rfl rfl rfl rfl rfl rfl rfl oM oM ?_
             refine AList.load1l tyOk rfl rfl rfl rfl rfl oM ?_
             refine AList.assign rfl rfl rfl ?_
             refine AList.nil ?_)
          | (refine AWp.region (id := 8) ?_
             refine AList.move rfl rfl rfl ?_
             refine AList.fieldPt tyOk rfl rfl rfl rfl rfl rfl rfl ?_
             refine AList.load1 tyOk rfl rfl rfl rfl rfl rfl rfl oM oM ?_
             refine AList.rem rfl rfl rfl rfl (by omega) (by omega) ?_
             refine AList.move rfl rfl rfl ?_
             refine AList.cmpF rfl rfl rfl rfl rfl cmF ?_
             refine AList.move rfl rfl rfl ?_
             refine AList.skip rfl rfl ?_
             refine AList.skip rfl rfl ?_
             refine AList.skip rfl rfl ?_
             refine AList.skip rfl rfl ?_
             refine AList.skip rfl rfl ?_
             refine AList.skip rfl rfl ?_
             refine AList.pickF rfl rfl rfl rfl ?_
             refine AList.nil ?_)
          | (refine AWp.region (id := 10) ?_
             refine AList.fieldPt tyOk rfl rfl rfl rfl rfl rfl rfl ?_
             refine AList.load1 tyOk rfl rfl rfl rfl rfl rfl rfl oM oM ?_
             refine AList.move rfl rfl rfl ?_
             refine AList.litSl tyOk rfl rfl rfl rfl rfl rfl rfl rfl rfl rfl rfl ?_
             refine AList.appL tyOk rfl rfl rfl rfl rfl rfl rfl rfl rfl rfl oM oM ?_
             refine AList.fieldPt tyOk rfl rfl rfl rfl rfl rfl rfl ?_
             refine AList.store tyOk rfl rfl rfl rfl rfl rfl rfl rfl oM oM ?_
             refine AList.nil ?_))
        refine ⟨k + 1, by omega, Wk.mk [(3, some 3), (6, some 6), (7, some 7), (9, some 49)] rfl rfl rfl ?_ ?_, by omega⟩
        · repeat (first | exact trivial | refine ⟨⟨_, rfl, by first | exact LeA.c (LeC.refl _ rfl) | exact LeA.c (LeC.ow _ _ rfl) | exact LeA.c (LeC.pt _ _ _ _ _ rfl) | exact LeA.c (LeC.nil _ rfl) | exact LeA.c (LeC.nils _ _) | (refine LeA.int ?_; omega) | (refine LeA.int ?_; dsimp only; omega) | exact LeA.c (LeC.fz rfl rfl (by first | rfl | omega) (fun i _ j _ => ⟨rfl, by first | rfl | exact rowN_imm (fun _ => rfl) _ i j | exact rowF_imm (fun _ => rfl) _ i j⟩))⟩, ?_⟩)
        · repeat (first | exact trivial | refine ⟨by first | exact HeapOk.same rfl rfl rfl rfl | exact HeapOk.lent rfl rfl rfl rfl | exact HeapOk.nil rfl rfl | exact HeapOk.row rfl rfl (by first | rfl | omega) (fun i _ j _ => ⟨rfl, by first | rfl | exact rowN_imm (fun _ => rfl) _ i j | exact rowF_imm (fun _ => rfl) _ i j⟩) | exact HeapOk.box rfl rfl (by repeat (first | exact trivial | refine ⟨by first | exact LeC.refl _ rfl | exact LeC.ow _ _ rfl | exact LeC.nil _ rfl | exact LeC.nils _ _ | exact LeC.fz rfl rfl (by first | rfl | omega) (fun i _ j _ => ⟨rfl, by first | rfl | exact rowN_imm (fun _ => rfl) _ i j | exact rowF_imm (fun _ => rfl) _ i j⟩) | exact LeC.int (by omega), ?_⟩)) rfl, ?_⟩)
          refine ⟨HeapOk.row rfl rfl rfl (app_one (g := fun i => iC (hideF Wn f a b i)) (fun i hi => rfl) ?_ fun _ _ => rfl), trivial⟩
          simp only [hideF]
          rw [if_neg (fun h => h1 h.1)]
    · obtain rfl : k = n := by omega
      repeat (first
        | refine AWp.seq ?_
        | refine thenA_n ?_
        | refine AWp.exit ?_
        | refine AWp.ret ?_
        | refine AWp.condF rfl (by first | rfl | exact cmF) ?_
        | (refine AWp.region (id := 5) ?_
           refine AList.move rfl rfl rfl ?_
           refine AList.fieldPt tyOk rfl rfl rfl rfl rfl rfl rfl ?_
           refine AList.load1 tyOk rfl rfl rfl rfl rfl rfl rfl oM oM ?_
           refine AList.lenLs tyOk rfl rfl rfl rfl rfl ?_
           refine AList.cmpF rfl rfl rfl rfl rfl cmF ?_
           refine AList.nil ?_)
        | (refine AWp.region (id := 11) ?_
           refine AList.loadA tyOk rfl rfl rfl rfl rfl rfl rfl oM oM ?_
           refine AList.store tyOk rfl rfl rfl rfl rfl rfl rfl rfl oM oM ?_
           refine AList.nil ?_))
      refine ⟨_, Wk.refl, 6, 27, 6, 3, 27, _, 9, _, rfl, rfl, rfl, rfl, rfl, rfl, rfl, rfl, rfl, fun _ _ _ _ => rfl⟩
end Go.Proofs.Ytcdnpnbjloaihaa
end

section
/- ref33.unknown. No condition but those that each states. -/
namespace Go.Proofs.Ytcdnpnbjloaihaa
open Go.RowKit Go.Flow Go.Plain
open Go.Proofs
attribute [local go_sem] block_add
attribute [local go_sem ↓] Go.wp_at_zero Go.wp_at_succ

/-- The indices below p that U has. -/
def uL (U : Nat → Bool) (p : Nat) : List Nat := (List.range p).filter U
theorem uL_succ (U : Nat → Bool) (p : Nat) : uL U (p + 1) = uL U p ++ (if U p then [p] else []) := by
  unfold uL
  rw [List.range_succ, List.filter_append]
  cases h : U p <;> simp [h]
theorem uL_len (U : Nat → Bool) : ∀ p, ((uL U p).length : Int) = cnt U p
  | 0 => rfl
  | p + 1 => by
    rw [uL_succ, List.length_append, cnt_succ, ← uL_len U p]
    cases h : U p <;> simp
def UnkPost (L : List Nat) (w : World) (e : Ending) (w' : World) : Prop := ∃ v, e = .returned v ∧ w'.ownsRow w.heap.size 3 1 v L.length (L.map fun k => .int .i64 (k : Nat)) ∧ Ext w w'


set_option maxHeartbeats 1000000 in
set_option maxRecDepth 100000 in
theorem unknown_any (Wn Hn n c : Nat) (A : Option Addr) (f : Nat → Int) (a b c1 d : Int) (w : World) (hW : Wn ≤ 100) (hH : Hn ≤ 100) (hn : n = Wn * Hn) (hA : Ints w A n f) :
    Calls Try.prog 36 #[img Wn Hn A n c, rct a b c1 d] w (UnkPost (uL (unkB Wn f a b c1 d) n) w) := by
  obtain ⟨U, hU⟩ : ∃ U, unkB Wn f a b c1 d = U := ⟨_, rfl⟩
  rw [hU]
  have hUx : ∀ k, U k = (decide (f k = 2) && inR a b c1 d ((k : Int) % Wn) ((k : Int) / Wn)) := fun k => by rw [← hU]; rfl
  clear hU
  have hpost : ∀ e w', (∃ v, e = .returned v ∧ w'.ownsRow w.heap.size 3 1 v (uL U n).length ((uL U n).map fun k => .int .i64 (k : Nat)) ∧ Ext w w') → UnkPost (uL U n) w e w' := fun _ _ h => h
  replace hpost := Lib.hid hpost
  obtain ⟨i0, hi, hz0, hz1, hz2⟩ := info_parts info_int
  have hnb : n ≤ 10000 := by subst hn; exact Nat.mul_le_mul hW hH
  replace hn := Lib.hid hn
  replace hUx := Lib.hid hUx
  have hE0 := Lib.hid (((Ext.refl w).alloc (.cells #[.int .i64 Wn, .int .i64 Hn, .slice A n c] 27)).alloc (.cells #[.int .i64 a, .int .i64 b, .int .i64 c1, .int .i64 d] 29))
  have hX0 := Lib.hid ((Blk.new w 27 #[.int .i64 Wn, .int .i64 Hn, .slice A n c]).alloc (.cells #[.int .i64 a, .int .i64 b, .int .i64 c1, .int .i64 d] 29))
  have hR0 := Lib.hid (Blk.new' (g := w.heap.size + 1) (w := w.alloc (.cells #[.int .i64 Wn, .int .i64 Hn, .slice A n c] 27)) (by simp) 29 #[.int .i64 a, .int .i64 b, .int .i64 c1, .int .i64 d])
  go_enter Try.func36, Try.ntmps36
  go_wp2_with fail
  go_loopw [5, 6] (fun v i wr => ∃ k : Nat, k ≤ n ∧ i = .int .i64 k ∧ Blk wr w.heap.size 27 #[.int .i64 Wn, .int .i64 Hn, .slice A n c] ∧ Blk wr (w.heap.size + 1) 29 #[.int .i64 a, .int .i64 b, .int .i64 c1, .int .i64 d] ∧
    wr.ownsRow (w.heap.size + 2) 3 1 v (uL U k).length ((uL U k).map fun k => .int .i64 (k : Nat)) ∧ Ext w wr) (fun _ i _ => n - (intOf i).toNat)
  case atStart => exact ⟨0, by omega, rfl, hX0.out, hR0.out, World.ownsRow_nil _ _ _ _, hE0.out⟩
  case round =>
    clear hX0 hR0 hE0
    obtain ⟨k, hk, rfl, hX, hR, hrow, hE⟩ := hrel
    obtain ⟨xc, xf, xl⟩ := hX.rules
    obtain ⟨rc, rf, rl⟩ := hR.rules
    by_cases hlt : k < n
    · have hlt' : (k : Int) < n := by omega
      obtain ⟨ad, rfl, hc⟩ := hA.ext hE k hlt
      have hal := lt_of_cell hc
      have hUk := hUx.out k
      have hW0 : Wn ≠ 0 := by
        intro h
        have h2 := hn.out
        rw [h, Nat.zero_mul] at h2
        omega
      have hr0 := Int.emod_nonneg (k : Int) (show (Wn : Int) ≠ 0 by omega)
      have hr1 := Int.emod_lt_of_pos (k : Int) (show (0 : Int) < Wn by omega)
      have hq0 : 0 ≤ (k : Int) / Wn := Int.ediv_nonneg (by omega) (by omega)
      have hq1 : (k : Int) / Wn ≤ k := Int.ediv_le_self _ (by omega)
      have hmd : (k : Int).tmod Wn = (k : Int) % Wn := Int.tmod_eq_emod_of_nonneg (by omega)
      have hdv : (k : Int).tdiv Wn = (k : Int) / Wn := Int.tdiv_eq_ediv_of_nonneg (by omega)
      have hwq : IntKind.i64.wrap ((k : Int) / Wn) = (k : Int) / Wn := by rw [IntKind.wrap_i64]; omega
      obtain ⟨pv, hpv⟩ : ∃ pv, f k = pv := ⟨_, rfl⟩
      rw [hpv] at hUk
      simp only [hpv] at hc
      replace hpv := Lib.hid hpv
      have hll := uL_len U k
      have hl2 := cnt_le U k
      replace hX := Lib.hid hX
      replace hR := Lib.hid hR
      have hws := hE.size
      replace hrow := Lib.hid hrow
      replace hE := Lib.hid hE
      by_cases h0 : pv = 2
      · have h0' : (pv == 2) = true := by simpa using h0
        by_cases h1 : a ≤ (k : Int) % Wn
        · by_cases h2 : (k : Int) % Wn ≤ c1
          · by_cases h3 : b ≤ (k : Int) / Wn
            · by_cases h4 : (k : Int) / Wn ≤ d
              · have hu : U k = true := by rw [hUk, h0]; simp [inR]; omega
                have hs := uL_succ U k
                rw [hu] at hs
                simp only [if_true] at hs
                replace hs := Lib.hid hs
                subst h0
                clear hu hUk
                go_wp2_with (first
                  | (at_builtin; refine wpList_app1 rfl (.tmp 54) (.tmp 56) 23 rfl i0 (.int .i64 0) 8 Try.underlying23 hi hz0 hz1 hz2 rfl rfl (own_ext hrow.out ((Ext.refl wr).alloc _)) wr.heap.size (.int .i64 (k : Int)) #[.int .i64 (k : Int)] 3 rfl (Blk.new _ _ _) rfl rfl (by omega) (by omega) (by simp; omega) ?_))
                intro v' w6 hr2 hg2 hk2
                have hkp : ∀ q : Nat, ∀ t cs, q < w.heap.size + 2 → Blk wr q t cs → Blk w6 q t cs := fun q t cs hq hb => (hg2.block q (by have := hb.lt; simp; omega) (fun e => by
                  have := hrow.out.lt q e.symm; omega)).trans (hb.alloc _)
                have hX6 := Lib.hid (hkp _ _ _ (by omega) hX.out)
                have hR6 := Lib.hid (hkp _ _ _ (by omega) hR.out)
                have hE6 := Lib.hid (hk2 w (by omega) (hE.out.alloc _))
                replace hr2 := Lib.hid hr2
                clear hg2 hk2 hkp xc xf xl rc rf rl
                go_wp2_with fail
                exact ⟨⟨k + 1, by omega, by go_num, hX6.out, hR6.out, by have := hr2.out; rw [hs.out]; simpa using this, hE6.out⟩, by simp only [intOf]; omega⟩
              · have hu : U k = false := by rw [hUk]; simp [inR]; omega
                have hs := uL_succ U k
                rw [hu] at hs
                simp only [Bool.false_eq_true, if_false, List.append_nil] at hs
                replace hs := Lib.hid hs
                clear hu hUk
                go_wp2_with fail
                exact ⟨⟨k + 1, by omega, by go_num, hX.out, hR.out, by rw [hs.out]; exact hrow.out, hE.out⟩, by simp only [intOf]; omega⟩
            · have hu : U k = false := by rw [hUk]; simp [inR]; omega
              have hs := uL_succ U k
              rw [hu] at hs
              simp only [Bool.false_eq_true, if_false, List.append_nil] at hs
              replace hs := Lib.hid hs
              clear hu hUk
              go_wp2_with fail
              exact ⟨⟨k + 1, by omega, by go_num, hX.out, hR.out, by rw [hs.out]; exact hrow.out, hE.out⟩, by simp only [intOf]; omega⟩
          · have hu : U k = false := by rw [hUk]; simp [inR]; omega
            have hs := uL_succ U k
            rw [hu] at hs
            simp only [Bool.false_eq_true, if_false, List.append_nil] at hs
            replace hs := Lib.hid hs
            clear hu hUk
            go_wp2_with fail
            exact ⟨⟨k + 1, by omega, by go_num, hX.out, hR.out, by rw [hs.out]; exact hrow.out, hE.out⟩, by simp only [intOf]; omega⟩
        · have hu : U k = false := by rw [hUk]; simp [inR]; omega
          have hs := uL_succ U k
          rw [hu] at hs
          simp only [Bool.false_eq_true, if_false, List.append_nil] at hs
          replace hs := Lib.hid hs
          clear hu hUk
          go_wp2_with fail
          exact ⟨⟨k + 1, by omega, by go_num, hX.out, hR.out, by rw [hs.out]; exact hrow.out, hE.out⟩, by simp only [intOf]; omega⟩
      · have h0' : (pv == 2) = false := by simpa using h0
        have hu : U k = false := by rw [hUk]; simp [h0]
        have hs := uL_succ U k
        rw [hu] at hs
        simp only [Bool.false_eq_true, if_false, List.append_nil] at hs
        replace hs := Lib.hid hs
        clear hu hUk
        go_wp2_with fail
        exact ⟨⟨k + 1, by omega, by go_num, hX.out, hR.out, by rw [hs.out]; exact hrow.out, hE.out⟩, by simp only [intOf]; omega⟩
    · obtain rfl : k = n := by omega
      have hws := hX.lt
      obtain ⟨A', c', rfl, -⟩ := row_open hrow
      have hfin := hpost.out (.returned (.slice A' (uL U k).length c')) wr ⟨_, rfl, ⟨hrow.1, by
        rcases hrow.2 with h | ⟨g, cap, cur, h1, h2, h3⟩
        · exact .inl h
        · exact .inr ⟨g, cap, cur, h1, by omega, h3⟩⟩, hE⟩
      replace hfin := Lib.hid hfin
      clear hpost hE hrow
      replace hX := Lib.hid hX
      replace hR := Lib.hid hR
      go_wp2_with fail
      go_ret
      exact hfin.out
end Go.Proofs.Ytcdnpnbjloaihaa
end
