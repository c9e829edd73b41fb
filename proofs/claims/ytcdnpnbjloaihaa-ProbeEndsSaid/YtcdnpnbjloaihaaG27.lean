/- Parts of the proof: A33d. -/
import Derived.Test.YtcdnpnbjloaihaaG26
set_option linter.unusedSimpArgs false
set_option linter.unusedVariables false
section
/- Chapter 33 over plain values: the reference's Next. -/
namespace Go.Proofs.Ytcdnpnbjloaihaa
open Go.RowKit Go.Flow Go.AV Go.Plain
theorem imC_imm (x : Im) : (imC x).all immC = true := rfl
theorem bmC_imm (x : Bm) : (bmC x).all immC = true := rfl
theorem mtC_imm (x : Mt) : (mtC x).all immC = true := rfl
abbrev nx0 : Rc × Int × Bool := ((0, 0, 0, 0), 0, false)
def putI (L : List Bm) (Y : List Mt) (k : Nat) : Im := ⟨(L.getD k bmZ).W + 4, (L.getD k bmZ).H + 4, (((L.getD k bmZ).W + 4) * ((L.getD k bmZ).H + 4)).toNat, putF (L.getD k bmZ).W (L.getD k bmZ).H (L.getD k bmZ).d (Y.getD k mtZ).dx (Y.getD k mtZ).dy⟩
def gdB (Wn Hn : Nat) (L : List Bm) (Y : List Mt) (k : Nat) : Bool := goodB Wn Hn (L.getD k bmZ).W (L.getD k bmZ).H (L.getD k bmZ).n (Y.getD k mtZ).dx (Y.getD k mtZ).dy
theorem nextL_bad {Wn Hn n : Nat} {f : Nat → Int} {L : List Bm} {Y : List Mt} {k : Nat} (hk : k < L.length) (h : gdB Wn Hn L Y k = false) : nextL Wn Hn n f L Y = nx0 := by
  unfold nextL
  split
  · unfold nextV
    rw [if_neg]
    intro h1
    have := h1.1 k hk
    unfold gdB at h
    rw [Int.toNat_natCast, Int.toNat_natCast] at this
    exact Bool.noConfusion (h.symm.trans this)
  · rfl
theorem nextL_len {W H : Int} {n : Nat} {f : Nat → Int} {L : List Bm} {Y : List Mt} (h : L.length = 0 ∨ L.length ≠ Y.length ∨ blkL W H n f = []) : nextL W H n f L Y = nx0 := by
  unfold nextL
  split
  · rename_i h1
    unfold nextV
    split
    · rename_i h2
      rcases h with h | h | h
      · omega
      · exact absurd h1.2 h
      · unfold blkL at h
        rw [if_pos h1.1] at h
        rw [h]
        rfl
    · rfl
  · rfl
theorem nextL_all {Wn Hn n : Nat} {f : Nat → Int} {L : List Bm} {Y : List Mt} (hok : chkI Wn Hn n f = 0) (hl : L.length = Y.length) (h0 : 0 < L.length) (hg : ∀ k, k < L.length → gdB Wn Hn L Y k = true) : nextL Wn Hn n f L Y = nst (mstT Wn n f L.length fun k => (putI L Y k).f) (blkL Wn Hn n f) := by
  have hn : n = Wn * Hn := by have := (chkI_ok.1 hok).1.2.2.2.2; exact_mod_cast this
  unfold nextL
  rw [if_pos ⟨hok, hl⟩]
  unfold nextV
  rw [if_pos ⟨fun k hk => by rw [Int.toNat_natCast, Int.toNat_natCast]; exact hg k hk, h0⟩]
  unfold blkL
  rw [if_pos hok, Int.toNat_natCast, Int.toNat_natCast]
  exact (nst_congr _ _ _ fun r hr => tog_most hn f L.length _ r hr).symm
theorem blk_len {W H : Int} {n : Nat} {f : Nat → Int} : (blkL W H n f).length ≤ 10000 := by
  unfold blkL
  split
  · rename_i h
    obtain ⟨-, hW, -, hH, -⟩ := (chkI_ok.1 h).1
    have h1 : four W.toNat ≤ 50 := by unfold four; omega
    have h2 : four H.toNat ≤ 50 := by unfold four; omega
    have := bls_len W.toNat H.toNat n f (four H.toNat * four W.toNat)
    have := Nat.mul_le_mul h2 h1
    unfold blocks
    omega
  · simp
theorem take_next {B : List Rc} {k : Nat} (h : k < B.length) : B.take (k + 1) = B.take k ++ [B.getD k rcZ] := by
  rw [List.take_add_one, List.getD_eq_getElem?_getD, List.getElem?_eq_getElem h]
  rfl
theorem uL_lt (U : Nat → Bool) (n j : Nat) (hj : j < (uL U n).length) : (uL U n).getD j 0 < n := by
  have e := List.getElem?_eq_getElem hj
  have : (uL U n).getD j 0 = (uL U n)[j] := by rw [List.getD_eq_getElem?_getD, e]; rfl
  rw [this]
  have := List.getElem_mem hj
  unfold uL at this
  rw [List.mem_filter, List.mem_range] at this
  exact this.1
set_option maxRecDepth 100000 in
theorem rNext_A (W H : Int) (n : Nat) (f : Nat → Int) (L : List Bm) (Y : List Mt) (hn : n ≤ 4611686018427387904) (hL : L.length ≤ 100) (hY : Y.length ≤ 100) : ACalls Try.prog 20 [.ag (imgV W H n f), .c (.ls L.length 3 (rowF bmC bmZ L)), .c (.ls Y.length 4 (rowF mtC mtZ Y))] (nxV (nextL W H n f L Y)) := by
  have hB := rBlocks_A W H n f hn
  by_cases hl0 : L.length = 0
  · rw [nextL_len (.inl hl0)]
    refine acalls_at Try.func20 rfl rfl Try.ntmps20 rfl ?_
    repeat (first
      | refine AWp.seq ?_
      | refine thenA_n ?_
      | refine AWp.ret ?_
      | refine thenA_r ?_
      | refine AWp.condT rfl (by first | rfl | exact cmT) ?_
      | (refine AWp.region (id := 0) ?_
         refine AList.box rfl rfl rfl rfl rfl ?_
         refine AList.alloc tyOk rfl rfl rfl rfl rfl ?_
         refine AList.assign rfl rfl rfl ?_
         refine AList.assign rfl rfl rfl ?_
         refine AList.nil ?_)
      | (refine AWp.region (id := 1) ?_
         refine AList.loadA tyOk rfl rfl rfl rfl rfl rfl rfl oM oM ?_
         refine AList.call rfl rfl rfl rfl Try.func15 rfl (by kernel_rfl) (hB) ?_
         refine AList.assign rfl rfl rfl ?_
         refine AList.nil ?_)
      | (refine AWp.region (id := 2) ?_
         refine AList.move rfl rfl rfl ?_
         refine AList.lenLs tyOk rfl rfl rfl rfl rfl ?_
         refine AList.cmpT rfl rfl rfl rfl rfl cmT ?_
         refine AList.move rfl rfl rfl ?_
         refine AList.skip rfl rfl ?_
         refine AList.skip rfl rfl ?_
         refine AList.skip rfl rfl ?_
         refine AList.skip rfl rfl ?_
         refine AList.skip rfl rfl ?_
         refine AList.pickT rfl rfl rfl rfl ?_
         refine AList.move rfl rfl rfl ?_
         refine AList.skip rfl rfl ?_
         refine AList.skip rfl rfl ?_
         refine AList.skip rfl rfl ?_
         refine AList.pickT rfl rfl rfl rfl ?_
         refine AList.nil ?_)
      | (refine AWp.region (id := 3) ?_
         refine AList.buildSt tyOk rfl rfl rfl rfl rfl rfl rfl rfl ?_
         refine AList.store tyOk rfl rfl rfl rfl rfl rfl rfl rfl oM oM ?_
         refine AList.assign rfl rfl rfl ?_
         refine AList.assign rfl rfl rfl ?_
         refine AList.nil ?_))
    refine ⟨mkSt 112 [(6, .c (.pt 6 4 0 0)), (7, .c (iC 0)), (8, .c (bC false))] [(6, ⟨false, 1, 4, 29, lF (rcC rcZ)⟩)] [6], [(6, ⟨false, 1, 4, 29, lF (rcC rcZ)⟩)], Wk.mk [(6, some 6)] rfl rfl rfl ?_ ?_, rfl, rfl, ARets.three (x := .ag (rcC rcZ)) (y := .c _) (z := .c _) (ARes.box tyOk rfl rfl rfl rfl rfl rfl rfl) (ARes.tmp rfl rfl) (ARes.tmp rfl rfl)⟩
    · repeat (first | exact trivial | refine ⟨⟨_, rfl, by first | exact LeA.c (LeC.refl _ rfl) | exact LeA.c (LeC.ow _ _ rfl) | exact LeA.c (LeC.pt _ _ _ _ _ rfl) | exact LeA.c (LeC.nil _ rfl) | exact LeA.c (LeC.nils _ _) | (refine LeA.int ?_; omega) | (refine LeA.int ?_; dsimp only; omega) | exact LeA.c (LeC.fz rfl rfl (by first | rfl | omega) (fun i _ j _ => ⟨rfl, by first | rfl | exact rowN_imm (fun _ => rfl) _ i j | exact rowF_imm (fun _ => rfl) _ i j⟩))⟩, ?_⟩)
    · repeat (first | exact trivial | refine ⟨by first | exact HeapOk.same rfl rfl rfl rfl | exact HeapOk.lent rfl rfl rfl rfl | exact HeapOk.nil rfl rfl | exact HeapOk.row rfl rfl (by first | rfl | omega) (fun i _ j _ => ⟨rfl, by first | rfl | exact rowN_imm (fun _ => rfl) _ i j | exact rowF_imm (fun _ => rfl) _ i j⟩) | exact HeapOk.box rfl rfl (by repeat (first | exact trivial | refine ⟨by first | exact LeC.refl _ rfl | exact LeC.ow _ _ rfl | exact LeC.nil _ rfl | exact LeC.nils _ _ | exact LeC.fz rfl rfl (by first | rfl | omega) (fun i _ j _ => ⟨rfl, by first | rfl | exact rowN_imm (fun _ => rfl) _ i j | exact rowF_imm (fun _ => rfl) _ i j⟩) | exact LeC.int (by omega), ?_⟩)) rfl, ?_⟩)
  · by_cases hl : L.length = Y.length
    · by_cases hb : blkL W H n f = []
      · rw [nextL_len (.inr (.inr hb))]
        have hb0 : (blkL W H n f).length = 0 := by rw [hb]; rfl
        refine acalls_at Try.func20 rfl rfl Try.ntmps20 rfl ?_
        repeat (first
          | refine AWp.seq ?_
          | refine thenA_n ?_
          | refine AWp.ret ?_
          | refine thenA_r ?_
          | refine AWp.condT rfl (by first | rfl | exact cmT) ?_
          | (refine AWp.region (id := 0) ?_
             refine AList.box rfl rfl rfl rfl rfl ?_
             refine AList.alloc tyOk rfl rfl rfl rfl rfl ?_
             refine AList.assign rfl rfl rfl ?_
             refine AList.assign rfl rfl rfl ?_
             refine AList.nil ?_)
          | (refine AWp.region (id := 1) ?_
             refine AList.loadA tyOk rfl rfl rfl rfl rfl rfl rfl oM oM ?_
             refine AList.call rfl rfl rfl rfl Try.func15 rfl (by kernel_rfl) (hB) ?_
             refine AList.assign rfl rfl rfl ?_
             refine AList.nil ?_)
          | (refine AWp.region (id := 2) ?_
             refine AList.move rfl rfl rfl ?_
             refine AList.lenLs tyOk rfl rfl rfl rfl rfl ?_
             refine AList.cmpF rfl rfl rfl rfl rfl cmF ?_
             refine AList.move rfl rfl rfl ?_
             refine AList.move rfl rfl rfl ?_
             refine AList.lenLs tyOk rfl rfl rfl rfl rfl ?_
             refine AList.move rfl rfl rfl ?_
             refine AList.lenLs tyOk rfl rfl rfl rfl rfl ?_
             refine AList.cmpF rfl rfl rfl rfl rfl cmF ?_
             refine AList.pickF rfl rfl rfl rfl ?_
             refine AList.move rfl rfl rfl ?_
             refine AList.move rfl rfl rfl ?_
             refine AList.lenLs tyOk rfl rfl rfl rfl rfl ?_
             refine AList.cmpT rfl rfl rfl rfl rfl cmT ?_
             refine AList.pickF rfl rfl rfl rfl ?_
             refine AList.nil ?_)
          | (refine AWp.region (id := 3) ?_
             refine AList.buildSt tyOk rfl rfl rfl rfl rfl rfl rfl rfl ?_
             refine AList.store tyOk rfl rfl rfl rfl rfl rfl rfl rfl oM oM ?_
             refine AList.assign rfl rfl rfl ?_
             refine AList.assign rfl rfl rfl ?_
             refine AList.nil ?_))
        refine ⟨mkSt 112 [(6, .c (.pt 6 4 0 0)), (7, .c (iC 0)), (8, .c (bC false))] [(6, ⟨false, 1, 4, 29, lF (rcC rcZ)⟩)] [6], [(6, ⟨false, 1, 4, 29, lF (rcC rcZ)⟩)], Wk.mk [(6, some 6)] rfl rfl rfl ?_ ?_, rfl, rfl, ARets.three (x := .ag (rcC rcZ)) (y := .c _) (z := .c _) (ARes.box tyOk rfl rfl rfl rfl rfl rfl rfl) (ARes.tmp rfl rfl) (ARes.tmp rfl rfl)⟩
        · repeat (first | exact trivial | refine ⟨⟨_, rfl, by first | exact LeA.c (LeC.refl _ rfl) | exact LeA.c (LeC.ow _ _ rfl) | exact LeA.c (LeC.pt _ _ _ _ _ rfl) | exact LeA.c (LeC.nil _ rfl) | exact LeA.c (LeC.nils _ _) | (refine LeA.int ?_; omega) | (refine LeA.int ?_; dsimp only; omega) | exact LeA.c (LeC.fz rfl rfl (by first | rfl | omega) (fun i _ j _ => ⟨rfl, by first | rfl | exact rowN_imm (fun _ => rfl) _ i j | exact rowF_imm (fun _ => rfl) _ i j⟩))⟩, ?_⟩)
        · repeat (first | exact trivial | refine ⟨by first | exact HeapOk.same rfl rfl rfl rfl | exact HeapOk.lent rfl rfl rfl rfl | exact HeapOk.nil rfl rfl | exact HeapOk.row rfl rfl (by first | rfl | omega) (fun i _ j _ => ⟨rfl, by first | rfl | exact rowN_imm (fun _ => rfl) _ i j | exact rowF_imm (fun _ => rfl) _ i j⟩) | exact HeapOk.box rfl rfl (by repeat (first | exact trivial | refine ⟨by first | exact LeC.refl _ rfl | exact LeC.ow _ _ rfl | exact LeC.nil _ rfl | exact LeC.nils _ _ | exact LeC.fz rfl rfl (by first | rfl | omega) (fun i _ j _ => ⟨rfl, by first | rfl | exact rowN_imm (fun _ => rfl) _ i j | exact rowF_imm (fun _ => rfl) _ i j⟩) | exact LeC.int (by omega), ?_⟩)) rfl, ?_⟩)
      · have hok : chkI W H n f = 0 := by
          by_cases h : chkI W H n f = 0
          · exact h
          · exact absurd (by unfold blkL; rw [if_neg h]) hb
        obtain ⟨Wn, Hn, rfl, rfl⟩ := chkI_nat hok
        obtain ⟨-, hW, -, hH, hnn⟩ := (chkI_ok.1 hok).1
        have hn' : n = Wn * Hn := by exact_mod_cast hnn
        have hnb : n ≤ 10000 := by subst hn'; exact Nat.mul_le_mul (by omega : Wn ≤ 100) (by omega : Hn ≤ 100)
        have hb0 : 0 < (blkL Wn Hn n f).length := List.length_pos_iff.2 hb
        have hbl : (blkL Wn Hn n f).length ≤ 10000 := blk_len
        refine acalls_at Try.func20 rfl rfl Try.ntmps20 rfl ?_
        repeat (first
          | refine AWp.seq ?_
          | refine thenA_n ?_
          | refine AWp.block ?_
          | refine AWp.skip ?_
          | refine AWp.condF rfl (by first | rfl | exact cmF) ?_
          | (refine AWp.region (id := 0) ?_
             refine AList.box rfl rfl rfl rfl rfl ?_
             refine AList.alloc tyOk rfl rfl rfl rfl rfl ?_
             refine AList.assign rfl rfl rfl ?_
             refine AList.assign rfl rfl rfl ?_
             refine AList.nil ?_)
          | (refine AWp.region (id := 1) ?_
             refine AList.loadA tyOk rfl rfl rfl rfl rfl rfl rfl oM oM ?_
             refine AList.call rfl rfl rfl rfl Try.func15 rfl (by kernel_rfl) (hB) ?_
             refine AList.assign rfl rfl rfl ?_
             refine AList.nil ?_)
          | (refine AWp.region (id := 2) ?_
             refine AList.move rfl rfl rfl ?_
             refine AList.lenLs tyOk rfl rfl rfl rfl rfl ?_
             refine AList.cmpF rfl rfl rfl rfl rfl cmF ?_
             refine AList.move rfl rfl rfl ?_
             refine AList.move rfl rfl rfl ?_
             refine AList.lenLs tyOk rfl rfl rfl rfl rfl ?_
             refine AList.move rfl rfl rfl ?_
             refine AList.lenLs tyOk rfl rfl rfl rfl rfl ?_
             refine AList.cmpF rfl rfl rfl rfl rfl cmF ?_
             refine AList.pickF rfl rfl rfl rfl ?_
             refine AList.move rfl rfl rfl ?_
             refine AList.move rfl rfl rfl ?_
             refine AList.lenLs tyOk rfl rfl rfl rfl rfl ?_
             refine AList.cmpF rfl rfl rfl rfl rfl cmF ?_
             refine AList.pickF rfl rfl rfl rfl ?_
             refine AList.nil ?_)
          | (refine AWp.region (id := 4) ?_
             refine AList.assign rfl rfl rfl ?_
             refine AList.nil ?_)
          | (refine AWp.region (id := 5) ?_
             refine AList.assign rfl rfl rfl ?_
             refine AList.nil ?_))
        refine AWp.round (fun k : Nat => mkSt 112 [(1, .c (.ls L.length 3 (rowF bmC bmZ L))), (2, .c (.ls Y.length 4 (rowF mtC mtZ Y))), (3, .c (.pt 3 3 0 0)), (6, .c (.pt 6 4 0 0)), (9, .c (.ls (blkL Wn Hn n f).length 4 (rcF (blkL Wn Hn n f)))), (10, .c (.ow 10)), (11, .c (iC k))]
          [(3, ⟨false, 1, 3, 27, lF (imgV Wn Hn n f)⟩), (6, ⟨false, 1, 4, 29, lF (rcC rcZ)⟩), (10, ⟨true, k, 3, 27, rowN imC (putI L Y)⟩)] [3, 6, 10])
          (fun k => k ≤ L.length ∧ ∀ j, j < k → gdB Wn Hn L Y j = true) (fun k => L.length - k) 0 ⟨Nat.zero_le _, fun j hj => absurd hj (Nat.not_lt_zero _)⟩ ?_ (fun k hk => ?_)
        · refine Wk.mk [(3, some 3), (6, some 6), (10, none)] rfl rfl rfl ?_ ?_
          · repeat (first | exact trivial | refine ⟨⟨_, rfl, by first | exact LeA.c (LeC.refl _ rfl) | exact LeA.c (LeC.ow _ _ rfl) | exact LeA.c (LeC.pt _ _ _ _ _ rfl) | exact LeA.c (LeC.nil _ rfl) | exact LeA.c (LeC.nils _ _) | (refine LeA.int ?_; omega) | (refine LeA.int ?_; dsimp only; omega) | exact LeA.c (LeC.fz rfl rfl (by first | rfl | omega) (fun i _ j _ => ⟨rfl, by first | rfl | exact rowN_imm (fun _ => rfl) _ i j | exact rowF_imm (fun _ => rfl) _ i j⟩))⟩, ?_⟩)
          · repeat (first | exact trivial | refine ⟨by first | exact HeapOk.same rfl rfl rfl rfl | exact HeapOk.lent rfl rfl rfl rfl | exact HeapOk.nil rfl rfl | exact HeapOk.row rfl rfl (by first | rfl | omega) (fun i _ j _ => ⟨rfl, by first | rfl | exact rowN_imm (fun _ => rfl) _ i j | exact rowF_imm (fun _ => rfl) _ i j⟩) | exact HeapOk.box rfl rfl (by repeat (first | exact trivial | refine ⟨by first | exact LeC.refl _ rfl | exact LeC.ow _ _ rfl | exact LeC.nil _ rfl | exact LeC.nils _ _ | exact LeC.fz rfl rfl (by first | rfl | omega) (fun i _ j _ => ⟨rfl, by first | rfl | exact rowN_imm (fun _ => rfl) _ i j | exact rowF_imm (fun _ => rfl) _ i j⟩) | exact LeC.int (by omega), ?_⟩)) rfl, ?_⟩)
        · obtain ⟨hk, hgd⟩ := hk
          by_cases hlt : k < L.length
          · have hP := rPut_A (L.getD k bmZ).W (L.getD k bmZ).H (L.getD k bmZ).n (L.getD k bmZ).d (Y.getD k mtZ).dx (Y.getD k mtZ).dy
            by_cases he : putE (L.getD k bmZ).W (L.getD k bmZ).H (L.getD k bmZ).n (Y.getD k mtZ).dx (Y.getD k mtZ).dy = 0
            · rw [putV, if_pos he] at hP
              by_cases h1 : (L.getD k bmZ).W + 4 = Wn
              · by_cases h2 : (L.getD k bmZ).H + 4 = Hn
                · repeat (first
                    | refine AWp.seq ?_
                    | refine thenA_n ?_
                    | refine AWp.block ?_
                    | refine AWp.skip ?_
                    | refine inBlk_n ?_
                    | refine AWp.condT rfl (by first | rfl | exact cmT) ?_
                    | refine AWp.condF rfl (by first | rfl | exact cmF) ?_
                    | (refine AWp.region (id := 6) ?_
                       refine AList.move rfl rfl rfl ?_
                       refine AList.move rfl rfl rfl ?_
                       refine AList.lenLs tyOk rfl rfl rfl rfl rfl ?_
                       refine AList.cmpT rfl rfl rfl rfl rfl cmT ?_
                       refine AList.nil ?_)
                    | (refine AWp.region (id := 7) ?_
                       refine AList.move rfl rfl rfl ?_
                       refine AList.add rfl rfl rfl rfl (by omega) (by omega) ?_
                       refine AList.assign rfl rfl rfl ?_
                       refine AList.nil ?_)
                    | (refine AWp.draw (id := 8) mixed ?_
                       refine AList.move rfl rfl rfl ?_
                       refine AList.move rfl rfl rfl ?_
                       refine AList.idx tyOk rfl rfl rfl rfl rfl rfl rfl rfl rfl oM oM ?_
                       refine AList.loadAl tyOk rfl rfl rfl rfl rfl oM ?_
                       refine AList.move rfl rfl rfl ?_
                       refine AList.move rfl rfl rfl ?_
                       refine AList.idx tyOk rfl rfl rfl rfl rfl rfl rfl rfl rfl oM oM ?_
                       refine AList.fieldPl tyOk rfl rfl rfl rfl rfl rfl rfl ?_
                       refine AList.load1l tyOk rfl rfl rfl rfl rfl oM ?_
                       refine AList.move rfl rfl rfl ?_
                       refine AList.move rfl rfl rfl ?_
                       refine AList.idx tyOk rfl rfl rfl rfl rfl rfl rfl rfl rfl oM oM ?_
                       refine AList.fieldPl tyOk rfl rfl rfl rfl rfl rfl rfl ?_
                       refine AList.load1l tyOk rfl rfl rfl rfl rfl oM ?_
                       refine AList.call rfl rfl rfl rfl Try.func26 rfl (by kernel_rfl) (hP) ?_
                       refine AList.move rfl rfl rfl ?_
                       refine AList.extract rfl rfl rfl rfl ?_
                       refine AList.extract rfl rfl rfl rfl ?_
                       refine AList.alloc tyOk rfl rfl rfl rfl rfl ?_
                       refine AList.store tyOk rfl rfl rfl rfl rfl rfl rfl rfl oM oM ?_
                       refine AList.assign rfl rfl rfl ?_
                       refine AList.nil ⟨by kernel_rfl, ?_⟩)
                    | (refine AWp.region (id := 9) ?_
                       refine AList.move rfl rfl rfl ?_
                       refine AList.cmp rfl rfl rfl rfl rfl ?_
                       refine AList.move rfl rfl rfl ?_
                       refine AList.fieldPt tyOk rfl rfl rfl rfl rfl rfl rfl ?_
                       refine AList.load1 tyOk rfl rfl rfl rfl rfl rfl rfl oM oM ?_
                       refine AList.fieldPt tyOk rfl rfl rfl rfl rfl rfl rfl ?_
                       refine AList.load1 tyOk rfl rfl rfl rfl rfl rfl rfl oM oM ?_
                       refine AList.cmpF rfl rfl rfl rfl rfl cmF ?_
                       refine AList.pickF rfl rfl rfl rfl ?_
                       refine AList.move rfl rfl rfl ?_
                       refine AList.fieldPt tyOk rfl rfl rfl rfl rfl rfl rfl ?_
                       refine AList.load1 tyOk rfl rfl rfl rfl rfl rfl rfl oM oM ?_
                       refine AList.fieldPt tyOk rfl rfl rfl rfl rfl rfl rfl ?_
                       refine AList.load1 tyOk rfl rfl rfl rfl rfl rfl rfl oM oM ?_
                       refine AList.cmpF rfl rfl rfl rfl rfl cmF ?_
                       refine AList.pickF rfl rfl rfl rfl ?_
                       refine AList.nil ?_)
                    | (refine AWp.region (id := 11) ?_
                       refine AList.move rfl rfl rfl ?_
                       refine AList.loadA tyOk rfl rfl rfl rfl rfl rfl rfl oM oM ?_
                       refine AList.litSl tyOk rfl rfl rfl rfl rfl rfl rfl rfl rfl rfl rfl ?_
                       refine AList.appL tyOk rfl rfl rfl rfl rfl rfl rfl rfl rfl rfl oM oM ?_
                       refine AList.assign rfl rfl rfl ?_
                       refine AList.nil ?_))
                  refine ⟨k + 1, ⟨by omega, fun j hj => ?_⟩, Wk.mk [(3, some 3), (6, some 6), (10, some 80)] rfl rfl rfl ?_ ?_, by omega⟩
                  · rcases Nat.lt_or_ge j k with h | h
                    · exact hgd j h
                    · obtain rfl : j = k := by omega
                      unfold gdB goodB
                      exact decide_eq_true ⟨he, h1, h2⟩
                  · repeat (first | exact trivial | refine ⟨⟨_, rfl, by first | exact LeA.c (LeC.refl _ rfl) | exact LeA.c (LeC.ow _ _ rfl) | exact LeA.c (LeC.pt _ _ _ _ _ rfl) | exact LeA.c (LeC.nil _ rfl) | exact LeA.c (LeC.nils _ _) | (refine LeA.int ?_; omega) | (refine LeA.int ?_; dsimp only; omega) | exact LeA.c (LeC.fz rfl rfl (by first | rfl | omega) (fun i _ j _ => ⟨rfl, by first | rfl | exact rowN_imm (fun _ => rfl) _ i j | exact rowF_imm (fun _ => rfl) _ i j⟩))⟩, ?_⟩)
                  · repeat (first | exact trivial | refine ⟨by first | exact HeapOk.same rfl rfl rfl rfl | exact HeapOk.lent rfl rfl rfl rfl | exact HeapOk.nil rfl rfl | exact HeapOk.row rfl rfl (by first | rfl | omega) (fun i _ j _ => ⟨rfl, by first | rfl | exact rowN_imm (fun _ => rfl) _ i j | exact rowF_imm (fun _ => rfl) _ i j⟩) | exact HeapOk.box rfl rfl (by repeat (first | exact trivial | refine ⟨by first | exact LeC.refl _ rfl | exact LeC.ow _ _ rfl | exact LeC.nil _ rfl | exact LeC.nils _ _ | exact LeC.fz rfl rfl (by first | rfl | omega) (fun i _ j _ => ⟨rfl, by first | rfl | exact rowN_imm (fun _ => rfl) _ i j | exact rowF_imm (fun _ => rfl) _ i j⟩) | exact LeC.int (by omega), ?_⟩)) rfl, ?_⟩)
                    exact ⟨HeapOk.row rfl rfl rfl (rowN_snoc (putI L Y) k imC_imm rfl), trivial⟩
                · rw [nextL_bad hlt (by unfold gdB goodB; exact decide_eq_false fun h => h2 h.2.2)]
                  repeat (first
                    | refine AWp.seq ?_
                    | refine thenA_n ?_
                    | refine AWp.block ?_
                    | refine AWp.skip ?_
                    | refine AWp.ret ?_
                    | refine thenA_r ?_
                    | refine inBlk_r ?_
                    | refine AWp.condT rfl (by first | rfl | exact cmT) ?_
                    | (refine AWp.region (id := 6) ?_
                       refine AList.move rfl rfl rfl ?_
                       refine AList.move rfl rfl rfl ?_
                       refine AList.lenLs tyOk rfl rfl rfl rfl rfl ?_
                       refine AList.cmpT rfl rfl rfl rfl rfl cmT ?_
                       refine AList.nil ?_)
                    | (refine AWp.draw (id := 8) mixed ?_
                       refine AList.move rfl rfl rfl ?_
                       refine AList.move rfl rfl rfl ?_
                       refine AList.idx tyOk rfl rfl rfl rfl rfl rfl rfl rfl rfl oM oM ?_
                       refine AList.loadAl tyOk rfl rfl rfl rfl rfl oM ?_
                       refine AList.move rfl rfl rfl ?_
                       refine AList.move rfl rfl rfl ?_
                       refine AList.idx tyOk rfl rfl rfl rfl rfl rfl rfl rfl rfl oM oM ?_
                       refine AList.fieldPl tyOk rfl rfl rfl rfl rfl rfl rfl ?_
                       refine AList.load1l tyOk rfl rfl rfl rfl rfl oM ?_
                       refine AList.move rfl rfl rfl ?_
                       refine AList.move rfl rfl rfl ?_
                       refine AList.idx tyOk rfl rfl rfl rfl rfl rfl rfl rfl rfl oM oM ?_
                       refine AList.fieldPl tyOk rfl rfl rfl rfl rfl rfl rfl ?_
                       refine AList.load1l tyOk rfl rfl rfl rfl rfl oM ?_
                       refine AList.call rfl rfl rfl rfl Try.func26 rfl (by kernel_rfl) (hP) ?_
                       refine AList.move rfl rfl rfl ?_
                       refine AList.extract rfl rfl rfl rfl ?_
                       refine AList.extract rfl rfl rfl rfl ?_
                       refine AList.alloc tyOk rfl rfl rfl rfl rfl ?_
                       refine AList.store tyOk rfl rfl rfl rfl rfl rfl rfl rfl oM oM ?_
                       refine AList.assign rfl rfl rfl ?_
                       refine AList.nil ⟨by kernel_rfl, ?_⟩)
                    | (refine AWp.region (id := 9) ?_
                       refine AList.move rfl rfl rfl ?_
                       refine AList.cmp rfl rfl rfl rfl rfl ?_
                       refine AList.move rfl rfl rfl ?_
                       refine AList.fieldPt tyOk rfl rfl rfl rfl rfl rfl rfl ?_
                       refine AList.load1 tyOk rfl rfl rfl rfl rfl rfl rfl oM oM ?_
                       refine AList.fieldPt tyOk rfl rfl rfl rfl rfl rfl rfl ?_
                       refine AList.load1 tyOk rfl rfl rfl rfl rfl rfl rfl oM oM ?_
                       refine AList.cmpF rfl rfl rfl rfl rfl cmF ?_
                       refine AList.pickF rfl rfl rfl rfl ?_
                       refine AList.move rfl rfl rfl ?_
                       refine AList.fieldPt tyOk rfl rfl rfl rfl rfl rfl rfl ?_
                       refine AList.load1 tyOk rfl rfl rfl rfl rfl rfl rfl oM oM ?_
                       refine AList.fieldPt tyOk rfl rfl rfl rfl rfl rfl rfl ?_
                       refine AList.load1 tyOk rfl rfl rfl rfl rfl rfl rfl oM oM ?_
                       refine AList.cmpT rfl rfl rfl rfl rfl cmT ?_
                       refine AList.pickF rfl rfl rfl rfl ?_
                       refine AList.nil ?_)
                    | (refine AWp.region (id := 10) ?_
                       refine AList.buildSt tyOk rfl rfl rfl rfl rfl rfl rfl rfl ?_
                       refine AList.store tyOk rfl rfl rfl rfl rfl rfl rfl rfl oM oM ?_
                       refine AList.assign rfl rfl rfl ?_
                       refine AList.assign rfl rfl rfl ?_
                       refine AList.nil ?_))
                  refine ⟨mkSt 112 [(6, .c (.pt 6 4 0 0)), (7, .c (iC 0)), (8, .c (bC false))] [(6, ⟨false, 1, 4, 29, lF (rcC rcZ)⟩)] [6], [(6, ⟨false, 1, 4, 29, lF (rcC rcZ)⟩)], Wk.mk [(6, some 6)] rfl rfl rfl ?_ ?_, rfl, rfl, ARets.three (x := .ag (rcC rcZ)) (y := .c _) (z := .c _) (ARes.box tyOk rfl rfl rfl rfl rfl rfl rfl) (ARes.tmp rfl rfl) (ARes.tmp rfl rfl)⟩
                  · repeat (first | exact trivial | refine ⟨⟨_, rfl, by first | exact LeA.c (LeC.refl _ rfl) | exact LeA.c (LeC.ow _ _ rfl) | exact LeA.c (LeC.pt _ _ _ _ _ rfl) | exact LeA.c (LeC.nil _ rfl) | exact LeA.c (LeC.nils _ _) | (refine LeA.int ?_; omega) | (refine LeA.int ?_; dsimp only; omega) | exact LeA.c (LeC.fz rfl rfl (by first | rfl | omega) (fun i _ j _ => ⟨rfl, by first | rfl | exact rowN_imm (fun _ => rfl) _ i j | exact rowF_imm (fun _ => rfl) _ i j⟩))⟩, ?_⟩)
                  · repeat (first | exact trivial | refine ⟨by first | exact HeapOk.same rfl rfl rfl rfl | exact HeapOk.lent rfl rfl rfl rfl | exact HeapOk.nil rfl rfl | exact HeapOk.row rfl rfl (by first | rfl | omega) (fun i _ j _ => ⟨rfl, by first | rfl | exact rowN_imm (fun _ => rfl) _ i j | exact rowF_imm (fun _ => rfl) _ i j⟩) | exact HeapOk.box rfl rfl (by repeat (first | exact trivial | refine ⟨by first | exact LeC.refl _ rfl | exact LeC.ow _ _ rfl | exact LeC.nil _ rfl | exact LeC.nils _ _ | exact LeC.fz rfl rfl (by first | rfl | omega) (fun i _ j _ => ⟨rfl, by first | rfl | exact rowN_imm (fun _ => rfl) _ i j | exact rowF_imm (fun _ => rfl) _ i j⟩) | exact LeC.int (by omega), ?_⟩)) rfl, ?_⟩)
              · rw [nextL_bad hlt (by unfold gdB goodB; exact decide_eq_false fun h => h1 h.2.1)]
                repeat (first
                  | refine AWp.seq ?_
                  | refine thenA_n ?_
                  | refine AWp.block ?_
                  | refine AWp.skip ?_
                  | refine AWp.ret ?_
                  | refine thenA_r ?_
                  | refine inBlk_r ?_
                  | refine AWp.condT rfl (by first | rfl | exact cmT) ?_
                  | (refine AWp.region (id := 6) ?_
                     refine AList.move rfl rfl rfl ?_
                     refine AList.move rfl rfl rfl ?_
                     refine AList.lenLs tyOk rfl rfl rfl rfl rfl ?_
                     refine AList.cmpT rfl rfl rfl rfl rfl cmT ?_
                     refine AList.nil ?_)
                  | (refine AWp.draw (id := 8) mixed ?_
                     refine AList.move rfl rfl rfl ?_
                     refine AList.move rfl rfl rfl ?_
                     refine AList.idx tyOk rfl rfl rfl rfl rfl rfl rfl rfl rfl oM oM ?_
                     refine AList.loadAl tyOk rfl rfl rfl rfl rfl oM ?_
                     refine AList.move rfl rfl rfl ?_
                     refine AList.move rfl rfl rfl ?_
                     refine AList.idx tyOk rfl rfl rfl rfl rfl rfl rfl rfl rfl oM oM ?_
                     refine AList.fieldPl tyOk rfl rfl rfl rfl rfl rfl rfl ?_
                     refine AList.load1l tyOk rfl rfl rfl rfl rfl oM ?_
                     refine AList.move rfl rfl rfl ?_
                     refine AList.move rfl rfl rfl ?_
                     refine AList.idx tyOk rfl rfl rfl rfl rfl rfl rfl rfl rfl oM oM ?_
                     refine AList.fieldPl tyOk rfl rfl rfl rfl rfl rfl rfl ?_
                     refine AList.load1l tyOk rfl rfl rfl rfl rfl oM ?_
                     refine AList.call rfl rfl rfl rfl Try.func26 rfl (by kernel_rfl) (hP) ?_
                     refine AList.move rfl rfl rfl ?_
                     refine AList.extract rfl rfl rfl rfl ?_
                     refine AList.extract rfl rfl rfl rfl ?_
                     refine AList.alloc tyOk rfl rfl rfl rfl rfl ?_
                     refine AList.store tyOk rfl rfl rfl rfl rfl rfl rfl rfl oM oM ?_
                     refine AList.assign rfl rfl rfl ?_
                     refine AList.nil ⟨by kernel_rfl, ?_⟩)
                  | (refine AWp.region (id := 9) ?_
                     refine AList.move rfl rfl rfl ?_
                     refine AList.cmp rfl rfl rfl rfl rfl ?_
                     refine AList.move rfl rfl rfl ?_
                     refine AList.fieldPt tyOk rfl rfl rfl rfl rfl rfl rfl ?_
                     refine AList.load1 tyOk rfl rfl rfl rfl rfl rfl rfl oM oM ?_
                     refine AList.fieldPt tyOk rfl rfl rfl rfl rfl rfl rfl ?_
                     refine AList.load1 tyOk rfl rfl rfl rfl rfl rfl rfl oM oM ?_
                     refine AList.cmpT rfl rfl rfl rfl rfl cmT ?_
                     refine AList.pickF rfl rfl rfl rfl ?_
                     refine AList.move rfl rfl rfl ?_
                     refine AList.skip rfl rfl ?_
                     refine AList.skip rfl rfl ?_
                     refine AList.skip rfl rfl ?_
                     refine AList.skip rfl rfl ?_
                     refine AList.skip rfl rfl ?_
                     refine AList.pickT rfl rfl rfl rfl ?_
                     refine AList.nil ?_)
                  | (refine AWp.region (id := 10) ?_
                     refine AList.buildSt tyOk rfl rfl rfl rfl rfl rfl rfl rfl ?_
                     refine AList.store tyOk rfl rfl rfl rfl rfl rfl rfl rfl oM oM ?_
                     refine AList.assign rfl rfl rfl ?_
                     refine AList.assign rfl rfl rfl ?_
                     refine AList.nil ?_))
                refine ⟨mkSt 112 [(6, .c (.pt 6 4 0 0)), (7, .c (iC 0)), (8, .c (bC false))] [(6, ⟨false, 1, 4, 29, lF (rcC rcZ)⟩)] [6], [(6, ⟨false, 1, 4, 29, lF (rcC rcZ)⟩)], Wk.mk [(6, some 6)] rfl rfl rfl ?_ ?_, rfl, rfl, ARets.three (x := .ag (rcC rcZ)) (y := .c _) (z := .c _) (ARes.box tyOk rfl rfl rfl rfl rfl rfl rfl) (ARes.tmp rfl rfl) (ARes.tmp rfl rfl)⟩
                · repeat (first | exact trivial | refine ⟨⟨_, rfl, by first | exact LeA.c (LeC.refl _ rfl) | exact LeA.c (LeC.ow _ _ rfl) | exact LeA.c (LeC.pt _ _ _ _ _ rfl) | exact LeA.c (LeC.nil _ rfl) | exact LeA.c (LeC.nils _ _) | (refine LeA.int ?_; omega) | (refine LeA.int ?_; dsimp only; omega) | exact LeA.c (LeC.fz rfl rfl (by first | rfl | omega) (fun i _ j _ => ⟨rfl, by first | rfl | exact rowN_imm (fun _ => rfl) _ i j | exact rowF_imm (fun _ => rfl) _ i j⟩))⟩, ?_⟩)
                · repeat (first | exact trivial | refine ⟨by first | exact HeapOk.same rfl rfl rfl rfl | exact HeapOk.lent rfl rfl rfl rfl | exact HeapOk.nil rfl rfl | exact HeapOk.row rfl rfl (by first | rfl | omega) (fun i _ j _ => ⟨rfl, by first | rfl | exact rowN_imm (fun _ => rfl) _ i j | exact rowF_imm (fun _ => rfl) _ i j⟩) | exact HeapOk.box rfl rfl (by repeat (first | exact trivial | refine ⟨by first | exact LeC.refl _ rfl | exact LeC.ow _ _ rfl | exact LeC.nil _ rfl | exact LeC.nils _ _ | exact LeC.fz rfl rfl (by first | rfl | omega) (fun i _ j _ => ⟨rfl, by first | rfl | exact rowN_imm (fun _ => rfl) _ i j | exact rowF_imm (fun _ => rfl) _ i j⟩) | exact LeC.int (by omega), ?_⟩)) rfl, ?_⟩)
            · rw [putV, if_neg he] at hP
              rw [nextL_bad hlt (by unfold gdB goodB; exact decide_eq_false fun h => he h.1)]
              repeat (first
                | refine AWp.seq ?_
                | refine thenA_n ?_
                | refine AWp.block ?_
                | refine AWp.skip ?_
                | refine AWp.ret ?_
                | refine thenA_r ?_
                | refine inBlk_r ?_
                | refine AWp.condT rfl (by first | rfl | exact cmT) ?_
                | (refine AWp.region (id := 6) ?_
                   refine AList.move rfl rfl rfl ?_
                   refine AList.move rfl rfl rfl ?_
                   refine AList.lenLs tyOk rfl rfl rfl rfl rfl ?_
                   refine AList.cmpT rfl rfl rfl rfl rfl cmT ?_
                   refine AList.nil ?_)
                | (refine AWp.draw (id := 8) mixed ?_
                   refine AList.move rfl rfl rfl ?_
                   refine AList.move rfl rfl rfl ?_
                   refine AList.idx tyOk rfl rfl rfl rfl rfl rfl rfl rfl rfl oM oM ?_
                   refine AList.loadAl tyOk rfl rfl rfl rfl rfl oM ?_
                   refine AList.move rfl rfl rfl ?_
                   refine AList.move rfl rfl rfl ?_
                   refine AList.idx tyOk rfl rfl rfl rfl rfl rfl rfl rfl rfl oM oM ?_
                   refine AList.fieldPl tyOk rfl rfl rfl rfl rfl rfl rfl ?_
                   refine AList.load1l tyOk rfl rfl rfl rfl rfl oM ?_
                   refine AList.move rfl rfl rfl ?_
                   refine AList.move rfl rfl rfl ?_
                   refine AList.idx tyOk rfl rfl rfl rfl rfl rfl rfl rfl rfl oM oM ?_
                   refine AList.fieldPl tyOk rfl rfl rfl rfl rfl rfl rfl ?_
                   refine AList.load1l tyOk rfl rfl rfl rfl rfl oM ?_
                   refine AList.call rfl rfl rfl rfl Try.func26 rfl (by kernel_rfl) (hP) ?_
                   refine AList.move rfl rfl rfl ?_
                   refine AList.extract rfl rfl rfl rfl ?_
                   refine AList.extract rfl rfl rfl rfl ?_
                   refine AList.alloc tyOk rfl rfl rfl rfl rfl ?_
                   refine AList.store tyOk rfl rfl rfl rfl rfl rfl rfl rfl oM oM ?_
                   refine AList.assign rfl rfl rfl ?_
                   refine AList.nil ⟨by kernel_rfl, ?_⟩)
                | (refine AWp.region (id := 9) ?_
                   refine AList.move rfl rfl rfl ?_
                   refine AList.cmpT rfl rfl rfl rfl rfl cmT ?_
                   refine AList.move rfl rfl rfl ?_
                   refine AList.skip rfl rfl ?_
                   refine AList.skip rfl rfl ?_
                   refine AList.skip rfl rfl ?_
                   refine AList.skip rfl rfl ?_
                   refine AList.skip rfl rfl ?_
                   refine AList.pickT rfl rfl rfl rfl ?_
                   refine AList.move rfl rfl rfl ?_
                   refine AList.skip rfl rfl ?_
                   refine AList.skip rfl rfl ?_
                   refine AList.skip rfl rfl ?_
                   refine AList.skip rfl rfl ?_
                   refine AList.skip rfl rfl ?_
                   refine AList.pickT rfl rfl rfl rfl ?_
                   refine AList.nil ?_)
                | (refine AWp.region (id := 10) ?_
                   refine AList.buildSt tyOk rfl rfl rfl rfl rfl rfl rfl rfl ?_
                   refine AList.store tyOk rfl rfl rfl rfl rfl rfl rfl rfl oM oM ?_
                   refine AList.assign rfl rfl rfl ?_
                   refine AList.assign rfl rfl rfl ?_
                   refine AList.nil ?_))
              refine ⟨mkSt 112 [(6, .c (.pt 6 4 0 0)), (7, .c (iC 0)), (8, .c (bC false))] [(6, ⟨false, 1, 4, 29, lF (rcC rcZ)⟩)] [6], [(6, ⟨false, 1, 4, 29, lF (rcC rcZ)⟩)], Wk.mk [(6, some 6)] rfl rfl rfl ?_ ?_, rfl, rfl, ARets.three (x := .ag (rcC rcZ)) (y := .c _) (z := .c _) (ARes.box tyOk rfl rfl rfl rfl rfl rfl rfl) (ARes.tmp rfl rfl) (ARes.tmp rfl rfl)⟩
              · repeat (first | exact trivial | refine ⟨⟨_, rfl, by first | exact LeA.c (LeC.refl _ rfl) | exact LeA.c (LeC.ow _ _ rfl) | exact LeA.c (LeC.pt _ _ _ _ _ rfl) | exact LeA.c (LeC.nil _ rfl) | exact LeA.c (LeC.nils _ _) | (refine LeA.int ?_; omega) | (refine LeA.int ?_; dsimp only; omega) | exact LeA.c (LeC.fz rfl rfl (by first | rfl | omega) (fun i _ j _ => ⟨rfl, by first | rfl | exact rowN_imm (fun _ => rfl) _ i j | exact rowF_imm (fun _ => rfl) _ i j⟩))⟩, ?_⟩)
              · repeat (first | exact trivial | refine ⟨by first | exact HeapOk.same rfl rfl rfl rfl | exact HeapOk.lent rfl rfl rfl rfl | exact HeapOk.nil rfl rfl | exact HeapOk.row rfl rfl (by first | rfl | omega) (fun i _ j _ => ⟨rfl, by first | rfl | exact rowN_imm (fun _ => rfl) _ i j | exact rowF_imm (fun _ => rfl) _ i j⟩) | exact HeapOk.box rfl rfl (by repeat (first | exact trivial | refine ⟨by first | exact LeC.refl _ rfl | exact LeC.ow _ _ rfl | exact LeC.nil _ rfl | exact LeC.nils _ _ | exact LeC.fz rfl rfl (by first | rfl | omega) (fun i _ j _ => ⟨rfl, by first | rfl | exact rowN_imm (fun _ => rfl) _ i j | exact rowF_imm (fun _ => rfl) _ i j⟩) | exact LeC.int (by omega), ?_⟩)) rfl, ?_⟩)
          · obtain rfl : k = L.length := by omega
            repeat (first
              | refine AWp.seq ?_
              | refine thenA_n ?_
              | refine AWp.exit ?_
              | refine AWp.condF rfl (by first | rfl | exact cmF) ?_
              | (refine AWp.region (id := 6) ?_
                 refine AList.move rfl rfl rfl ?_
                 refine AList.move rfl rfl rfl ?_
                 refine AList.lenLs tyOk rfl rfl rfl rfl rfl ?_
                 refine AList.cmpF rfl rfl rfl rfl rfl cmF ?_
                 refine AList.nil ?_)
              | (refine AWp.region (id := 12) ?_
                 refine AList.assign rfl rfl rfl ?_
                 refine AList.nil ?_))
            refine AWp.weak (S' := mkSt 112 [(3, .c (.pt 3 3 0 0)), (6, .c (.pt 6 4 0 0)), (9, .c (.ls (blkL Wn Hn n f).length 4 (rcF (blkL Wn Hn n f)))), (10, .c (.ls L.length 3 (rowN imC (putI L Y)))), (14, .c (iC 0))]
              [(3, ⟨false, 1, 3, 27, lF (imgV Wn Hn n f)⟩), (6, ⟨false, 1, 4, 29, lF (rcC rcZ)⟩)] [3, 6]) (Wk.mk [(3, some 3), (6, some 6)] rfl rfl rfl ?_ ?_) ?_
            · repeat (first | exact trivial | refine ⟨⟨_, rfl, by first | exact LeA.c (LeC.refl _ rfl) | exact LeA.c (LeC.ow _ _ rfl) | exact LeA.c (LeC.pt _ _ _ _ _ rfl) | exact LeA.c (LeC.nil _ rfl) | exact LeA.c (LeC.nils _ _) | (refine LeA.int ?_; omega) | (refine LeA.int ?_; dsimp only; omega) | exact LeA.c (LeC.fz rfl rfl (by first | rfl | omega) (fun i _ j _ => ⟨rfl, by first | rfl | exact rowN_imm (fun _ => rfl) _ i j | exact rowF_imm (fun _ => rfl) _ i j⟩))⟩, ?_⟩)
            · repeat (first | exact trivial | refine ⟨by first | exact HeapOk.same rfl rfl rfl rfl | exact HeapOk.lent rfl rfl rfl rfl | exact HeapOk.nil rfl rfl | exact HeapOk.row rfl rfl (by first | rfl | omega) (fun i _ j _ => ⟨rfl, by first | rfl | exact rowN_imm (fun _ => rfl) _ i j | exact rowF_imm (fun _ => rfl) _ i j⟩) | exact HeapOk.box rfl rfl (by repeat (first | exact trivial | refine ⟨by first | exact LeC.refl _ rfl | exact LeC.ow _ _ rfl | exact LeC.nil _ rfl | exact LeC.nils _ _ | exact LeC.fz rfl rfl (by first | rfl | omega) (fun i _ j _ => ⟨rfl, by first | rfl | exact rowN_imm (fun _ => rfl) _ i j | exact rowF_imm (fun _ => rfl) _ i j⟩) | exact LeC.int (by omega), ?_⟩)) rfl, ?_⟩)
            have hU := fun r : Rc => unk_A Wn Hn n f r.1 r.2.1 r.2.2.1 r.2.2.2 (by omega) (by omega) hn'
            have hni : ∀ i, i < L.length → (putI L Y i).n = n := fun i hi => by
              have h1 := hgd i hi
              unfold gdB goodB at h1
              obtain ⟨-, h2, h3⟩ := of_decide_eq_true h1
              show (((L.getD i bmZ).W + 4) * ((L.getD i bmZ).H + 4)).toNat = n
              rw [h2, h3, ← hnn, Int.toNat_natCast]
            rw [nextL_all hok hl (by omega) hgd]
            generalize hT : (mstT Wn n f L.length fun k => (putI L Y k).f) = T
            have hM : ∀ r : Rc, ACalls Try.prog 39 [.c (.ls L.length 3 (rowN imC (putI L Y))), .c (.ls (uL (unkR Wn f r) n).length 1 (iF fun j => ((uL (unkR Wn f r) n).getD j 0 : Nat)))] (.c (iC (T r))) := fun r => by
              have h1 := uL_len (unkR Wn f r) n
              have h2 := cnt_le (unkR Wn f r) n
              rw [← hT]
              exact most_A L.length (uL (unkR Wn f r) n).length n (putI L Y) (fun j => (uL (unkR Wn f r) n).getD j 0) hL (by omega) (by omega) hni (fun j hj => uL_lt _ n j hj)
            clear hT
            generalize hBl : blkL Wn Hn n f = B at hbl hb0 ⊢
            have hUM := hU (B.getD 0 rcZ)
            repeat (first
              | refine AWp.seq ?_
              | refine thenA_n ?_
              | refine AWp.block ?_
              | (refine AWp.draw (id := 13) mixed ?_
                 refine AList.move rfl rfl rfl ?_
                 refine AList.loadA tyOk rfl rfl rfl rfl rfl rfl rfl oM oM ?_
                 refine AList.move rfl rfl rfl ?_
                 refine AList.idx (k := 0) tyOk rfl rfl rfl rfl rfl rfl rfl rfl (by first | rfl | omega) oM oM ?_
                 refine AList.loadAl tyOk rfl rfl rfl rfl rfl oM ?_
                 refine AList.call rfl rfl rfl rfl Try.func36 rfl (by kernel_rfl) (hU (B.getD 0 rcZ)) ?_
                 refine AList.call rfl rfl rfl rfl Try.func39 rfl (by kernel_rfl) (hM (B.getD 0 rcZ)) ?_
                 refine AList.assign rfl rfl rfl ?_
                 refine AList.nil ⟨by kernel_rfl, ?_⟩)
              | (refine AWp.region (id := 14) ?_
                 refine AList.assign rfl rfl rfl ?_
                 refine AList.nil ?_))
            refine AWp.round (fun kb : Nat × Nat => mkSt 112 [(3, .c (.pt 3 3 0 0)), (6, .c (.pt 6 4 0 0)), (9, .c (.ls B.length 4 (rcF B))), (10, .c (.ls L.length 3 (rowN imC (putI L Y)))), (14, .c (iC kb.2)), (15, .c (iC (T (B.getD kb.2 rcZ)))), (16, .c (iC kb.1))]
              [(3, ⟨false, 1, 3, 27, lF (imgV Wn Hn n f)⟩), (6, ⟨false, 1, 4, 29, lF (rcC rcZ)⟩)] [3, 6])
              (fun kb => 1 ≤ kb.1 ∧ kb.1 ≤ B.length ∧ kb.2 < B.length ∧ nst T (B.take kb.1) = (B.getD kb.2 rcZ, T (B.getD kb.2 rcZ), true)) (fun kb => B.length - kb.1) (1, 0) ⟨Nat.le_refl _, hb0, hb0, ?_⟩ ?_ (fun kb hkb => ?_)
            · rw [take_next hb0, List.take_zero]
              rfl
            · refine Wk.mk [(3, some 3), (6, some 6)] rfl rfl rfl ?_ ?_
              · repeat (first | exact trivial | refine ⟨⟨_, rfl, by first | exact LeA.c (LeC.refl _ rfl) | exact LeA.c (LeC.ow _ _ rfl) | exact LeA.c (LeC.pt _ _ _ _ _ rfl) | exact LeA.c (LeC.nil _ rfl) | exact LeA.c (LeC.nils _ _) | (refine LeA.int ?_; omega) | (refine LeA.int ?_; dsimp only; omega) | exact LeA.c (LeC.fz rfl rfl (by first | rfl | omega) (fun i _ j _ => ⟨rfl, by first | rfl | exact rowN_imm (fun _ => rfl) _ i j | exact rowF_imm (fun _ => rfl) _ i j⟩))⟩, ?_⟩)
              · repeat (first | exact trivial | refine ⟨by first | exact HeapOk.same rfl rfl rfl rfl | exact HeapOk.lent rfl rfl rfl rfl | exact HeapOk.nil rfl rfl | exact HeapOk.row rfl rfl (by first | rfl | omega) (fun i _ j _ => ⟨rfl, by first | rfl | exact rowN_imm (fun _ => rfl) _ i j | exact rowF_imm (fun _ => rfl) _ i j⟩) | exact HeapOk.box rfl rfl (by repeat (first | exact trivial | refine ⟨by first | exact LeC.refl _ rfl | exact LeC.ow _ _ rfl | exact LeC.nil _ rfl | exact LeC.nils _ _ | exact LeC.fz rfl rfl (by first | rfl | omega) (fun i _ j _ => ⟨rfl, by first | rfl | exact rowN_imm (fun _ => rfl) _ i j | exact rowF_imm (fun _ => rfl) _ i j⟩) | exact LeC.int (by omega), ?_⟩)) rfl, ?_⟩)
            · obtain ⟨k, b⟩ := kb
              obtain ⟨hk1, hk2, hb2, hN⟩ := hkb
              dsimp only at hk1 hk2 hb2 hN
              by_cases hlt : k < B.length
              · have hstep : nst T (B.take (k + 1)) = nstep T (B.getD b rcZ, T (B.getD b rcZ), true) (B.getD k rcZ) := by rw [take_next hlt, nst_snoc, hN]
                by_cases hless : T (B.getD k rcZ) < T (B.getD b rcZ)
                · repeat (first
                    | refine AWp.seq ?_
                    | refine thenA_n ?_
                    | refine AWp.block ?_
                    | refine AWp.skip ?_
                    | refine inBlk_n ?_
                    | refine AWp.condT rfl (by first | rfl | exact cmT) ?_
                    | (refine AWp.region (id := 15) ?_
                       refine AList.move rfl rfl rfl ?_
                       refine AList.move rfl rfl rfl ?_
                       refine AList.lenLs tyOk rfl rfl rfl rfl rfl ?_
                       refine AList.cmpT rfl rfl rfl rfl rfl cmT ?_
                       refine AList.nil ?_)
                    | (refine AWp.region (id := 16) ?_
                       refine AList.move rfl rfl rfl ?_
                       refine AList.add rfl rfl rfl rfl (by omega) (by omega) ?_
                       refine AList.assign rfl rfl rfl ?_
                       refine AList.nil ?_)
                    | (refine AWp.draw (id := 17) mixed ?_
                       refine AList.move rfl rfl rfl ?_
                       refine AList.loadA tyOk rfl rfl rfl rfl rfl rfl rfl oM oM ?_
                       refine AList.move rfl rfl rfl ?_
                       refine AList.move rfl rfl rfl ?_
                       refine AList.idx (k := k) tyOk rfl rfl rfl rfl rfl rfl rfl rfl (by first | rfl | omega) oM oM ?_
                       refine AList.loadAl tyOk rfl rfl rfl rfl rfl oM ?_
                       refine AList.call rfl rfl rfl rfl Try.func36 rfl (by kernel_rfl) (hU (B.getD k rcZ)) ?_
                       refine AList.call rfl rfl rfl rfl Try.func39 rfl (by kernel_rfl) (hM (B.getD k rcZ)) ?_
                       refine AList.assign rfl rfl rfl ?_
                       refine AList.nil ⟨by kernel_rfl, ?_⟩)
                    | (refine AWp.region (id := 18) ?_
                       refine AList.move rfl rfl rfl ?_
                       refine AList.move rfl rfl rfl ?_
                       refine AList.cmpT rfl rfl rfl rfl rfl cmT ?_
                       refine AList.nil ?_)
                    | (refine AWp.region (id := 19) ?_
                       refine AList.move rfl rfl rfl ?_
                       refine AList.assign rfl rfl rfl ?_
                       refine AList.nil ?_)
                    | (refine AWp.region (id := 20) ?_
                       refine AList.move rfl rfl rfl ?_
                       refine AList.assign rfl rfl rfl ?_
                       refine AList.nil ?_))
                  refine ⟨(k + 1, k), ⟨by show 1 ≤ k + 1; omega, hlt, hlt, ?_⟩, Wk.mk [(3, some 3), (6, some 6)] rfl rfl rfl ?_ ?_, by show B.length - (k + 1) < B.length - k; omega⟩
                  · rw [hstep]
                    unfold nstep
                    exact if_pos (by show (!true || decide (T (B.getD k rcZ) < T (B.getD b rcZ))) = true; rw [decide_eq_true hless]; rfl)
                  · repeat (first | exact trivial | refine ⟨⟨_, rfl, by first | exact LeA.c (LeC.refl _ rfl) | exact LeA.c (LeC.ow _ _ rfl) | exact LeA.c (LeC.pt _ _ _ _ _ rfl) | exact LeA.c (LeC.nil _ rfl) | exact LeA.c (LeC.nils _ _) | (refine LeA.int ?_; omega) | (refine LeA.int ?_; dsimp only; omega) | exact LeA.c (LeC.fz rfl rfl (by first | rfl | omega) (fun i _ j _ => ⟨rfl, by first | rfl | exact rowN_imm (fun _ => rfl) _ i j | exact rowF_imm (fun _ => rfl) _ i j⟩))⟩, ?_⟩)
                  · repeat (first | exact trivial | refine ⟨by first | exact HeapOk.same rfl rfl rfl rfl | exact HeapOk.lent rfl rfl rfl rfl | exact HeapOk.nil rfl rfl | exact HeapOk.row rfl rfl (by first | rfl | omega) (fun i _ j _ => ⟨rfl, by first | rfl | exact rowN_imm (fun _ => rfl) _ i j | exact rowF_imm (fun _ => rfl) _ i j⟩) | exact HeapOk.box rfl rfl (by repeat (first | exact trivial | refine ⟨by first | exact LeC.refl _ rfl | exact LeC.ow _ _ rfl | exact LeC.nil _ rfl | exact LeC.nils _ _ | exact LeC.fz rfl rfl (by first | rfl | omega) (fun i _ j _ => ⟨rfl, by first | rfl | exact rowN_imm (fun _ => rfl) _ i j | exact rowF_imm (fun _ => rfl) _ i j⟩) | exact LeC.int (by omega), ?_⟩)) rfl, ?_⟩)
                · repeat (first
                    | refine AWp.seq ?_
                    | refine thenA_n ?_
                    | refine AWp.block ?_
                    | refine AWp.skip ?_
                    | refine inBlk_n ?_
                    | refine AWp.condT rfl (by first | rfl | exact cmT) ?_
                    | refine AWp.condF rfl (by first | rfl | exact cmF) ?_
                    | (refine AWp.region (id := 15) ?_
                       refine AList.move rfl rfl rfl ?_
                       refine AList.move rfl rfl rfl ?_
                       refine AList.lenLs tyOk rfl rfl rfl rfl rfl ?_
                       refine AList.cmpT rfl rfl rfl rfl rfl cmT ?_
                       refine AList.nil ?_)
                    | (refine AWp.region (id := 16) ?_
                       refine AList.move rfl rfl rfl ?_
                       refine AList.add rfl rfl rfl rfl (by omega) (by omega) ?_
                       refine AList.assign rfl rfl rfl ?_
                       refine AList.nil ?_)
                    | (refine AWp.draw (id := 17) mixed ?_
                       refine AList.move rfl rfl rfl ?_
                       refine AList.loadA tyOk rfl rfl rfl rfl rfl rfl rfl oM oM ?_
                       refine AList.move rfl rfl rfl ?_
                       refine AList.move rfl rfl rfl ?_
                       refine AList.idx (k := k) tyOk rfl rfl rfl rfl rfl rfl rfl rfl (by first | rfl | omega) oM oM ?_
                       refine AList.loadAl tyOk rfl rfl rfl rfl rfl oM ?_
                       refine AList.call rfl rfl rfl rfl Try.func36 rfl (by kernel_rfl) (hU (B.getD k rcZ)) ?_
                       refine AList.call rfl rfl rfl rfl Try.func39 rfl (by kernel_rfl) (hM (B.getD k rcZ)) ?_
                       refine AList.assign rfl rfl rfl ?_
                       refine AList.nil ⟨by kernel_rfl, ?_⟩)
                    | (refine AWp.region (id := 18) ?_
                       refine AList.move rfl rfl rfl ?_
                       refine AList.move rfl rfl rfl ?_
                       refine AList.cmpF rfl rfl rfl rfl rfl cmF ?_
                       refine AList.nil ?_))
                  refine ⟨(k + 1, b), ⟨by show 1 ≤ k + 1; omega, hlt, hb2, ?_⟩, Wk.mk [(3, some 3), (6, some 6)] rfl rfl rfl ?_ ?_, by show B.length - (k + 1) < B.length - k; omega⟩
                  · rw [hstep]
                    unfold nstep
                    exact if_neg (by show ¬ (!true || decide (T (B.getD k rcZ) < T (B.getD b rcZ))) = true; rw [decide_eq_false hless]; decide)
                  · repeat (first | exact trivial | refine ⟨⟨_, rfl, by first | exact LeA.c (LeC.refl _ rfl) | exact LeA.c (LeC.ow _ _ rfl) | exact LeA.c (LeC.pt _ _ _ _ _ rfl) | exact LeA.c (LeC.nil _ rfl) | exact LeA.c (LeC.nils _ _) | (refine LeA.int ?_; omega) | (refine LeA.int ?_; dsimp only; omega) | exact LeA.c (LeC.fz rfl rfl (by first | rfl | omega) (fun i _ j _ => ⟨rfl, by first | rfl | exact rowN_imm (fun _ => rfl) _ i j | exact rowF_imm (fun _ => rfl) _ i j⟩))⟩, ?_⟩)
                  · repeat (first | exact trivial | refine ⟨by first | exact HeapOk.same rfl rfl rfl rfl | exact HeapOk.lent rfl rfl rfl rfl | exact HeapOk.nil rfl rfl | exact HeapOk.row rfl rfl (by first | rfl | omega) (fun i _ j _ => ⟨rfl, by first | rfl | exact rowN_imm (fun _ => rfl) _ i j | exact rowF_imm (fun _ => rfl) _ i j⟩) | exact HeapOk.box rfl rfl (by repeat (first | exact trivial | refine ⟨by first | exact LeC.refl _ rfl | exact LeC.ow _ _ rfl | exact LeC.nil _ rfl | exact LeC.nils _ _ | exact LeC.fz rfl rfl (by first | rfl | omega) (fun i _ j _ => ⟨rfl, by first | rfl | exact rowN_imm (fun _ => rfl) _ i j | exact rowF_imm (fun _ => rfl) _ i j⟩) | exact LeC.int (by omega), ?_⟩)) rfl, ?_⟩)
              · obtain rfl : k = B.length := by omega
                rw [List.take_length] at hN
                rw [hN]
                repeat (first
                  | refine AWp.seq ?_
                  | refine thenA_n ?_
                  | refine AWp.exit ?_
                  | refine AWp.ret ?_
                  | refine AWp.condF rfl (by first | rfl | exact cmF) ?_
                  | (refine AWp.region (id := 15) ?_
                     refine AList.move rfl rfl rfl ?_
                     refine AList.move rfl rfl rfl ?_
                     refine AList.lenLs tyOk rfl rfl rfl rfl rfl ?_
                     refine AList.cmpF rfl rfl rfl rfl rfl cmF ?_
                     refine AList.nil ?_)
                  | (refine AWp.region (id := 21) ?_
                     refine AList.move rfl rfl rfl ?_
                     refine AList.move rfl rfl rfl ?_
                     refine AList.idx (k := b) tyOk rfl rfl rfl rfl rfl rfl rfl rfl (by first | rfl | omega) oM oM ?_
                     refine AList.loadAl tyOk rfl rfl rfl rfl rfl oM ?_
                     refine AList.move rfl rfl rfl ?_
                     refine AList.store tyOk rfl rfl rfl rfl rfl rfl rfl rfl oM oM ?_
                     refine AList.assign rfl rfl rfl ?_
                     refine AList.assign rfl rfl rfl ?_
                     refine AList.nil ?_))
                refine ⟨mkSt 112 [(6, .c (.pt 6 4 0 0)), (7, .c (iC (T (B.getD b rcZ)))), (8, .c (bC true))] [(6, ⟨false, 1, 4, 29, lF (rcC (B.getD b rcZ))⟩)] [6], [(6, ⟨false, 1, 4, 29, lF (rcC (B.getD b rcZ))⟩)], Wk.mk [(6, some 6)] rfl rfl rfl ?_ ?_, rfl, rfl, ARets.three (x := .ag (rcC (B.getD b rcZ))) (y := .c _) (z := .c _) (ARes.box tyOk rfl rfl rfl rfl rfl rfl rfl) (ARes.tmp rfl rfl) (ARes.tmp rfl rfl)⟩
                · repeat (first | exact trivial | refine ⟨⟨_, rfl, by first | exact LeA.c (LeC.refl _ rfl) | exact LeA.c (LeC.ow _ _ rfl) | exact LeA.c (LeC.pt _ _ _ _ _ rfl) | exact LeA.c (LeC.nil _ rfl) | exact LeA.c (LeC.nils _ _) | (refine LeA.int ?_; omega) | (refine LeA.int ?_; dsimp only; omega) | exact LeA.c (LeC.fz rfl rfl (by first | rfl | omega) (fun i _ j _ => ⟨rfl, by first | rfl | exact rowN_imm (fun _ => rfl) _ i j | exact rowF_imm (fun _ => rfl) _ i j⟩))⟩, ?_⟩)
                · repeat (first | exact trivial | refine ⟨by first | exact HeapOk.same rfl rfl rfl rfl | exact HeapOk.lent rfl rfl rfl rfl | exact HeapOk.nil rfl rfl | exact HeapOk.row rfl rfl (by first | rfl | omega) (fun i _ j _ => ⟨rfl, by first | rfl | exact rowN_imm (fun _ => rfl) _ i j | exact rowF_imm (fun _ => rfl) _ i j⟩) | exact HeapOk.box rfl rfl (by repeat (first | exact trivial | refine ⟨by first | exact LeC.refl _ rfl | exact LeC.ow _ _ rfl | exact LeC.nil _ rfl | exact LeC.nils _ _ | exact LeC.fz rfl rfl (by first | rfl | omega) (fun i _ j _ => ⟨rfl, by first | rfl | exact rowN_imm (fun _ => rfl) _ i j | exact rowF_imm (fun _ => rfl) _ i j⟩) | exact LeC.int (by omega), ?_⟩)) rfl, ?_⟩)
    · rw [nextL_len (.inr (.inl hl))]
      refine acalls_at Try.func20 rfl rfl Try.ntmps20 rfl ?_
      repeat (first
        | refine AWp.seq ?_
        | refine thenA_n ?_
        | refine AWp.ret ?_
        | refine thenA_r ?_
        | refine AWp.condT rfl (by first | rfl | exact cmT) ?_
        | (refine AWp.region (id := 0) ?_
           refine AList.box rfl rfl rfl rfl rfl ?_
           refine AList.alloc tyOk rfl rfl rfl rfl rfl ?_
           refine AList.assign rfl rfl rfl ?_
           refine AList.assign rfl rfl rfl ?_
           refine AList.nil ?_)
        | (refine AWp.region (id := 1) ?_
           refine AList.loadA tyOk rfl rfl rfl rfl rfl rfl rfl oM oM ?_
           refine AList.call rfl rfl rfl rfl Try.func15 rfl (by kernel_rfl) (hB) ?_
           refine AList.assign rfl rfl rfl ?_
           refine AList.nil ?_)
        | (refine AWp.region (id := 2) ?_
           refine AList.move rfl rfl rfl ?_
           refine AList.lenLs tyOk rfl rfl rfl rfl rfl ?_
           refine AList.cmpF rfl rfl rfl rfl rfl cmF ?_
           refine AList.move rfl rfl rfl ?_
           refine AList.move rfl rfl rfl ?_
           refine AList.lenLs tyOk rfl rfl rfl rfl rfl ?_
           refine AList.move rfl rfl rfl ?_
           refine AList.lenLs tyOk rfl rfl rfl rfl rfl ?_
           refine AList.cmpT rfl rfl rfl rfl rfl cmT ?_
           refine AList.pickF rfl rfl rfl rfl ?_
           refine AList.move rfl rfl rfl ?_
           refine AList.skip rfl rfl ?_
           refine AList.skip rfl rfl ?_
           refine AList.skip rfl rfl ?_
           refine AList.pickT rfl rfl rfl rfl ?_
           refine AList.nil ?_)
        | (refine AWp.region (id := 3) ?_
           refine AList.buildSt tyOk rfl rfl rfl rfl rfl rfl rfl rfl ?_
           refine AList.store tyOk rfl rfl rfl rfl rfl rfl rfl rfl oM oM ?_
           refine AList.assign rfl rfl rfl ?_
           refine AList.assign rfl rfl rfl ?_
           refine AList.nil ?_))
      refine ⟨mkSt 112 [(6, .c (.pt 6 4 0 0)), (7, .c (iC 0)), (8, .c (bC false))] [(6, ⟨false, 1, 4, 29, lF (rcC rcZ)⟩)] [6], [(6, ⟨false, 1, 4, 29, lF (rcC rcZ)⟩)], Wk.mk [(6, some 6)] rfl rfl rfl ?_ ?_, rfl, rfl, ARets.three (x := .ag (rcC rcZ)) (y := .c _) (z := .c _) (ARes.box tyOk rfl rfl rfl rfl rfl rfl rfl) (ARes.tmp rfl rfl) (ARes.tmp rfl rfl)⟩
      · repeat (first | exact trivial | refine ⟨⟨_, rfl, by first | exact LeA.c (LeC.refl _ rfl) | exact LeA.c (LeC.ow _ _ rfl) | exact LeA.c (LeC.pt _ _ _ _ _ rfl) | exact LeA.c (LeC.nil _ rfl) | exact LeA.c (LeC.nils _ _) | (refine LeA.int ?_; omega) | (refine LeA.int ?_; dsimp only; omega) | exact LeA.c (LeC.fz rfl rfl (by first | rfl | omega) (fun i _ j _ => ⟨rfl, by first | rfl | exact rowN_imm (fun _ => rfl) _ i j | exact rowF_imm (fun _ => rfl) _ i j⟩))⟩, ?_⟩)
      · repeat (first | exact trivial | refine ⟨by first | exact HeapOk.same rfl rfl rfl rfl | exact HeapOk.lent rfl rfl rfl rfl | exact HeapOk.nil rfl rfl | exact HeapOk.row rfl rfl (by first | rfl | omega) (fun i _ j _ => ⟨rfl, by first | rfl | exact rowN_imm (fun _ => rfl) _ i j | exact rowF_imm (fun _ => rfl) _ i j⟩) | exact HeapOk.box rfl rfl (by repeat (first | exact trivial | refine ⟨by first | exact LeC.refl _ rfl | exact LeC.ow _ _ rfl | exact LeC.nil _ rfl | exact LeC.nils _ _ | exact LeC.fz rfl rfl (by first | rfl | omega) (fun i _ j _ => ⟨rfl, by first | rfl | exact rowN_imm (fun _ => rfl) _ i j | exact rowF_imm (fun _ => rfl) _ i j⟩) | exact LeC.int (by omega), ?_⟩)) rfl, ?_⟩)
end Go.Proofs.Ytcdnpnbjloaihaa
end
