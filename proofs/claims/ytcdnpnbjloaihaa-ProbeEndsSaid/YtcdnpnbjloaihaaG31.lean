/- Parts of the proof: A33f. -/
import Derived.Test.YtcdnpnbjloaihaaG29
import Derived.Test.YtcdnpnbjloaihaaG30
set_option linter.unusedSimpArgs false
set_option linter.unusedVariables false
section
/- Chapter 33 over plain values: the law's made. -/
namespace Go.Proofs.Ytcdnpnbjloaihaa
open Go.RowKit Go.Flow Go.AV Go.Plain
structure Case where
  N : Nat
  ml : Nat → Nat
  mg : Nat → Nat → Int
  M : Nat
  sh : Nat → Int
  fr : Int
  ti : Int
  B : Nat
  bl : Nat → Int
abbrev caC (c : Case) : List CV := [.ls c.N 1 (fun k _ => .ls (c.ml k) 1 (iF (c.mg k))), .ls c.M 1 (iF c.sh), iC c.fr, iC c.ti, .ls c.B 1 (iF c.bl)]
/-- What can be a case's lengths. -/
def Case.ok (c : Case) : Prop := (∀ k, k < c.N → c.ml k ≤ 4611686018427387904) ∧ c.M ≤ 4611686018427387904 ∧ c.N ≤ 4611686018427387904 ∧ c.B ≤ 4611686018427387904 ∧ (-9223372036854775808 ≤ c.fr ∧ c.fr ≤ 9223372036854775807) ∧ (-9223372036854775808 ≤ c.ti ∧ c.ti ≤ 9223372036854775807) ∧ ∀ k, -9223372036854775808 ≤ c.bl k ∧ c.bl k ≤ 9223372036854775807
def okBm (b : Bm) : Prop := b.W = 9 ∧ b.H = 7 ∧ b.n = 63
def okMt (y : Mt) : Prop := -2 ≤ y.dx ∧ y.dx ≤ 2 ∧ -1 ≤ y.dy ∧ y.dy ≤ 1
abbrev putK (L : List Bm) (Y : List Mt) (k : Nat) : Nat → Int := putF 9 7 (L.getD k bmZ).d (Y.getD k mtZ).dx (Y.getD k mtZ).dy
/-- What made returns. -/
def MkR (L : List Bm) (Y : List Mt) (x : Im) : Prop := Y.length = L.length ∧ L.length ≤ 5 ∧ (∀ b ∈ L, okBm b) ∧ (∀ y ∈ Y, okMt y) ∧
  ((L = [] ∧ x = ⟨0, 0, 0, fun _ => 0⟩) ∨ (L ≠ [] ∧ x.W = 13 ∧ x.H = 11 ∧ x.n = 143 ∧ ∀ p, x.f p = 2 ∨ x.f p = putK L Y 0 p))
def MkA (r : AV) : Prop := ∃ (L : List Bm) (Y : List Mt) (x : Im), MkR L Y x ∧ r = .tu [.c (.ls L.length 3 (rowF bmC bmZ L)), .c (.ls Y.length 4 (rowF mtC mtZ Y)), .ag (imC x)]
theorem chk16 {W H n : Nat} (hW : W ≤ 16) (hH : H ≤ 12) (hn : n = W * H) : chk W H n = 0 := by
  subst hn
  unfold chk sideB
  rw [if_pos (by simp; omega), if_pos (by exact_mod_cast rfl)]
theorem put9 {dx dy : Int} (h : -2 ≤ dx ∧ dx ≤ 2 ∧ -1 ≤ dy ∧ dy ≤ 1) : putE 9 7 63 dx dy = 0 := by
  unfold putE
  rw [if_pos (by decide), if_pos (by rw [shiftB_iff]; omega)]
theorem chk13 {f : Nat → Int} (h : ∀ p, p < 143 → 0 ≤ f p ∧ f p ≤ 2) : chkI 13 11 143 f = 0 := by
  rw [chkI_ok]
  exact ⟨by unfold shI; decide, h⟩
theorem okBm_at {L : List Bm} (h : ∀ b ∈ L, okBm b) {k : Nat} (hk : k < L.length) : okBm (L.getD k bmZ) := by
  rw [List.getD_eq_getElem?_getD, List.getElem?_eq_getElem hk]
  exact h _ (List.getElem_mem hk)
theorem okMt_at {L : List Mt} (h : ∀ b ∈ L, okMt b) {k : Nat} (hk : k < L.length) : okMt (L.getD k mtZ) := by
  rw [List.getD_eq_getElem?_getD, List.getElem?_eq_getElem hk]
  exact h _ (List.getElem_mem hk)
set_option maxHeartbeats 1000000 in
set_option maxRecDepth 100000 in
theorem made_E (c : Case) (hc : c.ok) : ECalls Try.prog 10 [.ag (caC c)] MkA := by
  obtain ⟨hml, hM, hN, hB, hfr, hti, hbl⟩ := hc
  refine ecalls_at Try.func10 rfl rfl Try.ntmps10 rfl ?_
  repeat (first
    | refine AWp.seq ?_
    | refine thenA_n ?_
    | refine AWp.block ?_
    | (refine AWp.region (id := 0) ?_
       refine AList.box rfl rfl rfl rfl rfl ?_
       refine AList.assign rfl rfl rfl ?_
       refine AList.assign rfl rfl rfl ?_
       refine AList.alloc tyOk rfl rfl rfl rfl rfl ?_
       refine AList.nil ?_)
    | (refine AWp.region (id := 1) ?_
       refine AList.assign rfl rfl rfl ?_
       refine AList.nil ?_)
    | (refine AWp.region (id := 2) ?_
       refine AList.assign rfl rfl rfl ?_
       refine AList.nil ?_)
    | (refine AWp.region (id := 3) ?_
       refine AList.fieldPt tyOk rfl rfl rfl rfl rfl rfl rfl ?_
       refine AList.load1 tyOk rfl rfl rfl rfl rfl rfl rfl oM oM ?_
       refine AList.buildSt tyOk rfl rfl rfl rfl rfl rfl rfl rfl ?_
       refine AList.box rfl rfl rfl rfl rfl ?_
       refine AList.assign rfl rfl rfl ?_
       refine AList.nil ?_)
    | (refine AWp.region (id := 4) ?_
       refine AList.assign rfl rfl rfl ?_
       refine AList.nil ?_))
  refine AWp.round (fun s : List Bm × List Mt × Nat => mkSt 110 [(1, .c (.pt 1 5 0 0)), (4, .c (.pt 4 3 0 0)), (5, .c (.ow 5)), (6, .c (.ow 6)), (7, .c (.pt 17 2 0 0)), (8, .c (iC s.1.length))]
    [(1, ⟨false, 1, 5, 25, lF (caC c)⟩), (4, ⟨false, 1, 3, 27, lF [iC 0, iC 0, .p (.slice none 0 0)]⟩), (5, ⟨true, s.1.length, 3, 48, rowF bmC bmZ s.1⟩), (6, ⟨true, s.2.1.length, 4, 50, rowF mtC mtZ s.2.1⟩), (17, drawB c.M c.sh s.2.2)] [1, 4, 5, 6, 17])
    (fun s => s.2.2 ≤ c.M ∧ s.2.1.length = s.1.length ∧ s.1.length ≤ 5 ∧ (∀ b ∈ s.1, okBm b) ∧ ∀ y ∈ s.2.1, okMt y) (fun s => 5 - s.1.length) ([], [], 0) ⟨Nat.zero_le _, rfl, Nat.zero_le _, fun b h => (by cases h), fun b h => (by cases h)⟩ ?_ (fun s hs => ?_)
  · refine Wk.mk [(1, some 1), (4, some 4), (5, none), (6, none), (17, some 17)] rfl rfl rfl ?_ ?_
    · repeat (first | exact trivial | refine ⟨⟨_, rfl, by first | exact LeA.c (LeC.refl _ rfl) | exact LeA.c (LeC.ow _ _ rfl) | exact LeA.c (LeC.pt _ _ _ _ _ rfl) | exact LeA.c (LeC.nil _ rfl) | exact LeA.c (LeC.nils _ _) | (refine LeA.int ?_; omega) | (refine LeA.int ?_; dsimp only; omega) | exact LeA.c (LeC.fz rfl rfl (by first | rfl | omega) (fun i _ j _ => ⟨rfl, by first | rfl | exact rowN_imm (fun _ => rfl) _ i j | exact rowF_imm (fun _ => rfl) _ i j⟩))⟩, ?_⟩)
    · repeat (first | exact trivial | refine ⟨by first | exact HeapOk.same rfl rfl rfl rfl | exact HeapOk.lent rfl rfl rfl rfl | exact HeapOk.nil rfl rfl | exact HeapOk.row rfl rfl (by first | rfl | omega) (fun i _ j _ => ⟨rfl, by first | rfl | exact rowN_imm (fun _ => rfl) _ i j | exact rowF_imm (fun _ => rfl) _ i j⟩) | exact HeapOk.box rfl rfl (by repeat (first | exact trivial | refine ⟨by first | exact LeC.refl _ rfl | exact LeC.ow _ _ rfl | exact LeC.nil _ rfl | exact LeC.nils _ _ | exact LeC.fz rfl rfl (by first | rfl | omega) (fun i _ j _ => ⟨rfl, by first | rfl | exact rowN_imm (fun _ => rfl) _ i j | exact rowF_imm (fun _ => rfl) _ i j⟩) | exact LeC.int (by omega), ?_⟩)) rfl, ?_⟩)
  · obtain ⟨L, Y, a⟩ := s
    obtain ⟨ha, hYL, hL5, hLo, hYo⟩ := hs
    dsimp only at ha hYL hL5 hLo hYo
    dsimp only
    by_cases hltN : L.length < c.N
    · by_cases hlt : L.length < 5
      · repeat (first
          | refine AWp.seq ?_
          | refine thenA_n ?_
          | refine AWp.block ?_
          | refine AWp.skip ?_
          | refine AWp.condT rfl (by first | rfl | exact cmT) ?_
          | (refine AWp.region (id := 5) ?_
             refine AList.move rfl rfl rfl ?_
             refine AList.fieldPt tyOk rfl rfl rfl rfl rfl rfl rfl ?_
             refine AList.load1 tyOk rfl rfl rfl rfl rfl rfl rfl oM oM ?_
             refine AList.lenLs tyOk rfl rfl rfl rfl rfl ?_
             refine AList.cmpT rfl rfl rfl rfl rfl cmT ?_
             refine AList.move rfl rfl rfl ?_
             refine AList.move rfl rfl rfl ?_
             refine AList.cmpT rfl rfl rfl rfl rfl cmT ?_
             refine AList.pickT rfl rfl rfl rfl ?_
             refine AList.nil ?_))
        refine AWp.text ?_
        refine AText.split 5 ?_
        refine AList.fieldPt tyOk rfl rfl rfl rfl rfl rfl rfl ?_
        refine AList.load1 tyOk rfl rfl rfl rfl rfl rfl rfl oM oM ?_
        refine AList.move rfl rfl rfl ?_
        refine AList.idx tyOk rfl rfl rfl rfl rfl rfl rfl rfl rfl oM oM ?_
        refine AList.load1l tyOk rfl rfl rfl rfl rfl oM ?_
        refine AList.nil ?_
        refine AText.callE rfl rfl rfl rfl Try.func29 rfl (by kernel_rfl) (Made_E (c.ml L.length) (c.mg L.length) (hml _ hltN)) ?_
        rintro _ ⟨W, H, n, f, hW, hH, hn, rfl⟩
        refine AText.all ?_
        refine AList.call rfl rfl rfl rfl Try.func28 rfl (by kernel_rfl) (Crop_A W H n f 0 0 9 7 (chk16 hW hH hn) (by omega) (by omega) (by omega) (by omega)) ?_
        refine AList.move rfl rfl rfl ?_
        refine AList.extract rfl rfl rfl rfl ?_
        refine AList.extract rfl rfl rfl rfl ?_
        refine AList.alloc tyOk rfl rfl rfl rfl rfl ?_
        refine AList.store tyOk rfl rfl rfl rfl rfl rfl rfl rfl oM oM ?_
        refine AList.assign rfl rfl rfl ?_
        refine AList.nil ?_
        have ha1 := dat_le (N := c.M) ha
        have ha2 := dat_le (N := c.M) ha1
        have ha3 := dat_le (N := c.M) ha2
        have d1 := dval_bd c.M c.sh a 5 (by omega)
        have d2 := dval_bd c.M c.sh (dat c.M a) 3 (by omega)
        have d3 := dval_bd c.M c.sh (dat c.M (dat c.M a)) 3 (by omega)
        have n1 := Next_A c.M c.sh a 5 ha hM (by omega) (by omega)
        have n2 := Next_A c.M c.sh (dat c.M a) 3 ha1 hM (by omega) (by omega)
        have n3 := Next_A c.M c.sh (dat c.M (dat c.M a)) 3 ha2 hM (by omega) (by omega)
        generalize dval c.M c.sh a 5 = v1 at d1 n1
        generalize dval c.M c.sh (dat c.M a) 3 = v2 at d2 n2
        generalize dval c.M c.sh (dat c.M (dat c.M a)) 3 = v3 at d3 n3
        generalize dat c.M (dat c.M (dat c.M a)) = a3 at n3 ha3
        generalize dat c.M (dat c.M a) = a2 at n3 n2 ha2
        generalize dat c.M a = a1 at n1 n2 ha1
        repeat (first
          | refine AWp.seq ?_
          | refine thenA_n ?_
          | refine inBlk_n ?_
          | (refine AWp.region (id := 6) ?_
             refine AList.move rfl rfl rfl ?_
             refine AList.add rfl rfl rfl rfl (by omega) (by omega) ?_
             refine AList.assign rfl rfl rfl ?_
             refine AList.nil ?_)
          | (refine AWp.region (id := 8) ?_
             refine AList.move rfl rfl rfl ?_
             refine AList.loadA tyOk rfl rfl rfl rfl rfl rfl rfl oM oM ?_
             refine AList.litSl tyOk rfl rfl rfl rfl rfl rfl rfl rfl rfl rfl rfl ?_
             refine AList.appL tyOk rfl rfl rfl rfl rfl rfl rfl rfl rfl rfl oM oM ?_
             refine AList.assign rfl rfl rfl ?_
             refine AList.nil ?_)
          | (refine AWp.region (id := 9) ?_
             refine AList.move rfl rfl rfl ?_
             refine AList.move rfl rfl rfl ?_
             refine AList.callH [17] [drawB c.M c.sh a] [drawB c.M c.sh a1] rfl rfl rfl Try.func30 rfl (by kernel_rfl) (LendOk.box rfl rfl rfl trivial) rfl (LendImm.box rfl trivial) (n1) ?_
             refine AList.sub rfl rfl rfl rfl (by omega) (by omega) ?_
             refine AList.move rfl rfl rfl ?_
             refine AList.callH [17] [drawB c.M c.sh a1] [drawB c.M c.sh a2] rfl rfl rfl Try.func30 rfl (by kernel_rfl) (LendOk.box rfl rfl rfl trivial) rfl (LendImm.box rfl trivial) (n2) ?_
             refine AList.sub rfl rfl rfl rfl (by omega) (by omega) ?_
             refine AList.move rfl rfl rfl ?_
             refine AList.callH [17] [drawB c.M c.sh a2] [drawB c.M c.sh a3] rfl rfl rfl Try.func30 rfl (by kernel_rfl) (LendOk.box rfl rfl rfl trivial) rfl (LendImm.box rfl trivial) (n3) ?_
             refine AList.buildSt tyOk rfl rfl rfl rfl rfl rfl rfl rfl ?_
             refine AList.litSl tyOk rfl rfl rfl rfl rfl rfl rfl rfl rfl rfl rfl ?_
             refine AList.appL tyOk rfl rfl rfl rfl rfl rfl rfl rfl rfl rfl oM oM ?_
             refine AList.assign rfl rfl rfl ?_
             refine AList.nil ?_))
        have hlB : (L ++ [(⟨9, 7, 63, rcropB W H f 0 0 9⟩ : Bm)]).length = L.length + 1 := by simp
        have hlY : (Y ++ [(⟨v1 - 2, v2 - 1, v3, 0⟩ : Mt)]).length = Y.length + 1 := by simp
        refine ⟨(L ++ [⟨9, 7, 63, rcropB W H f 0 0 9⟩], Y ++ [⟨v1 - 2, v2 - 1, v3, 0⟩], a3), ⟨ha3, by rw [hlB, hlY, hYL], by rw [hlB]; omega, fun b hb => ?_, fun y hy => ?_⟩, Wk.mk [(1, some 1), (4, some 4), (5, some 42), (6, some 54), (17, some 17)] rfl rfl rfl ?_ ?_, by dsimp only; rw [hlB]; omega⟩
        · rcases List.mem_append.1 hb with h | h
          · exact hLo b h
          · rw [List.mem_singleton.1 h]; exact ⟨rfl, rfl, rfl⟩
        · rcases List.mem_append.1 hy with h | h
          · exact hYo y h
          · rw [List.mem_singleton.1 h]; unfold okMt; dsimp only; omega
        · repeat (first | exact trivial | refine ⟨⟨_, rfl, by first | exact LeA.c (LeC.refl _ rfl) | exact LeA.c (LeC.ow _ _ rfl) | exact LeA.c (LeC.pt _ _ _ _ _ rfl) | exact LeA.c (LeC.nil _ rfl) | exact LeA.c (LeC.nils _ _) | (refine LeA.int ?_; omega) | (refine LeA.int ?_; dsimp only; omega) | exact LeA.c (LeC.fz rfl rfl (by first | rfl | omega) (fun i _ j _ => ⟨rfl, by first | rfl | exact rowN_imm (fun _ => rfl) _ i j | exact rowF_imm (fun _ => rfl) _ i j⟩))⟩, ?_⟩)
        · repeat (first | exact trivial | refine ⟨by first | exact HeapOk.same rfl rfl rfl rfl | exact HeapOk.lent rfl rfl rfl rfl | exact HeapOk.nil rfl rfl | exact HeapOk.row rfl rfl (by first | rfl | omega) (fun i _ j _ => ⟨rfl, by first | rfl | exact rowN_imm (fun _ => rfl) _ i j | exact rowF_imm (fun _ => rfl) _ i j⟩) | exact HeapOk.box rfl rfl (by repeat (first | exact trivial | refine ⟨by first | exact LeC.refl _ rfl | exact LeC.ow _ _ rfl | exact LeC.nil _ rfl | exact LeC.nils _ _ | exact LeC.fz rfl rfl (by first | rfl | omega) (fun i _ j _ => ⟨rfl, by first | rfl | exact rowN_imm (fun _ => rfl) _ i j | exact rowF_imm (fun _ => rfl) _ i j⟩) | exact LeC.int (by omega), ?_⟩)) rfl, ?_⟩)
          refine ⟨HeapOk.row rfl rfl hlB (row_snoc L ⟨9, 7, 63, rcropB W H f 0 0 9⟩ bmC_imm rfl), ?_⟩
          refine ⟨HeapOk.row rfl rfl hlY (row_snoc Y ⟨v1 - 2, v2 - 1, v3, 0⟩ mtC_imm rfl), ?_⟩
          repeat (first | exact trivial | refine ⟨by first | exact HeapOk.same rfl rfl rfl rfl | exact HeapOk.lent rfl rfl rfl rfl | exact HeapOk.nil rfl rfl | exact HeapOk.row rfl rfl (by first | rfl | omega) (fun i _ j _ => ⟨rfl, by first | rfl | exact rowN_imm (fun _ => rfl) _ i j | exact rowF_imm (fun _ => rfl) _ i j⟩) | exact HeapOk.box rfl rfl (by repeat (first | exact trivial | refine ⟨by first | exact LeC.refl _ rfl | exact LeC.ow _ _ rfl | exact LeC.nil _ rfl | exact LeC.nils _ _ | exact LeC.fz rfl rfl (by first | rfl | omega) (fun i _ j _ => ⟨rfl, by first | rfl | exact rowN_imm (fun _ => rfl) _ i j | exact rowF_imm (fun _ => rfl) _ i j⟩) | exact LeC.int (by omega), ?_⟩)) rfl, ?_⟩)
      · have hL0 : L ≠ [] := fun h => hlt (by rw [h]; decide)
        have hl0 : 0 < L.length := List.length_pos_iff.2 hL0
        have hy0 : 0 < Y.length := by omega
        obtain ⟨e1, e2, e3⟩ := okBm_at hLo hl0
        have e4 := okMt_at hYo hy0
        repeat (first
          | refine AWp.seq ?_
          | refine thenA_n ?_
          | refine AWp.skip ?_
          | refine AWp.exit ?_
          | refine AWp.condF rfl (by first | rfl | exact cmF) ?_
          | (refine AWp.region (id := 5) ?_
             refine AList.move rfl rfl rfl ?_
             refine AList.fieldPt tyOk rfl rfl rfl rfl rfl rfl rfl ?_
             refine AList.load1 tyOk rfl rfl rfl rfl rfl rfl rfl oM oM ?_
             refine AList.lenLs tyOk rfl rfl rfl rfl rfl ?_
             refine AList.cmpT rfl rfl rfl rfl rfl cmT ?_
             refine AList.move rfl rfl rfl ?_
             refine AList.move rfl rfl rfl ?_
             refine AList.cmpF rfl rfl rfl rfl rfl cmF ?_
             refine AList.pickT rfl rfl rfl rfl ?_
             refine AList.nil ?_)
          | (refine AWp.region (id := 10) ?_
             refine AList.move rfl rfl rfl ?_
             refine AList.lenOw tyOk rfl rfl rfl rfl rfl rfl rfl ?_
             refine AList.cmpF rfl rfl rfl rfl rfl cmF ?_
             refine AList.nil ?_))
        refine AWp.weak (S' := mkSt 110 [(1, .c (.pt 1 5 0 0)), (4, .c (.pt 4 3 0 0)), (5, .c (.ls L.length 3 (rowF bmC bmZ L))), (6, .c (.ls Y.length 4 (rowF mtC mtZ Y)))]
          [(1, ⟨false, 1, 5, 25, lF (caC c)⟩), (4, ⟨false, 1, 3, 27, lF [iC 0, iC 0, .p (.slice none 0 0)]⟩)] [1, 4]) (Wk.mk [(1, some 1), (4, some 4)] rfl rfl rfl ?_ ?_) ?_
        · repeat (first | exact trivial | refine ⟨⟨_, rfl, by first | exact LeA.c (LeC.refl _ rfl) | exact LeA.c (LeC.ow _ _ rfl) | exact LeA.c (LeC.pt _ _ _ _ _ rfl) | exact LeA.c (LeC.nil _ rfl) | exact LeA.c (LeC.nils _ _) | (refine LeA.int ?_; omega) | (refine LeA.int ?_; dsimp only; omega) | exact LeA.c (LeC.fz rfl rfl (by first | rfl | omega) (fun i _ j _ => ⟨rfl, by first | rfl | exact rowN_imm (fun _ => rfl) _ i j | exact rowF_imm (fun _ => rfl) _ i j⟩))⟩, ?_⟩)
        · repeat (first | exact trivial | refine ⟨by first | exact HeapOk.same rfl rfl rfl rfl | exact HeapOk.lent rfl rfl rfl rfl | exact HeapOk.nil rfl rfl | exact HeapOk.row rfl rfl (by first | rfl | omega) (fun i _ j _ => ⟨rfl, by first | rfl | exact rowN_imm (fun _ => rfl) _ i j | exact rowF_imm (fun _ => rfl) _ i j⟩) | exact HeapOk.box rfl rfl (by repeat (first | exact trivial | refine ⟨by first | exact LeC.refl _ rfl | exact LeC.ow _ _ rfl | exact LeC.nil _ rfl | exact LeC.nils _ _ | exact LeC.fz rfl rfl (by first | rfl | omega) (fun i _ j _ => ⟨rfl, by first | rfl | exact rowN_imm (fun _ => rfl) _ i j | exact rowF_imm (fun _ => rfl) _ i j⟩) | exact LeC.int (by omega), ?_⟩)) rfl, ?_⟩)
        have hP : ACalls Try.prog 26 [.ag (bmC (L.getD 0 bmZ)), .c (iC (Y.getD 0 mtZ).dx), .c (iC (Y.getD 0 mtZ).dy)] (.tu [.ag (imgV 13 11 143 (putK L Y 0)), .c (iC 0)]) := by
          have h := rPut_A (L.getD 0 bmZ).W (L.getD 0 bmZ).H (L.getD 0 bmZ).n (L.getD 0 bmZ).d (Y.getD 0 mtZ).dx (Y.getD 0 mtZ).dy
          show ACalls Try.prog 26 [.ag (bmpV (L.getD 0 bmZ).W (L.getD 0 bmZ).H (L.getD 0 bmZ).n (L.getD 0 bmZ).d), _, _] _
          rw [e1, e2, e3] at h ⊢
          rw [putV, if_pos (put9 e4)] at h
          exact h
        have hok : chkI ((13 : Nat) : Int) ((11 : Nat) : Int) 143 (putK L Y 0) = 0 := chk13 fun p _ => ⟨(putF_bd _ _ _ _ _ p).1, Int.le_trans (putF_bd _ _ _ _ _ p).2 (by decide)⟩
        have hH := Hide_O 13 11 143 (putK L Y 0) (c.fr % 13) (c.ti % 14) hok
        have hMa := Mod_A c.fr 13 (by omega) (by omega)
        have hMb := Mod_A c.ti 14 (by omega) (by omega)
        repeat (first
          | refine AWp.seq ?_
          | refine thenA_n ?_
          | refine AWp.block ?_
          | (refine AWp.draw (id := 12) mixed ?_
             refine AList.move rfl rfl rfl ?_
             refine AList.idx (k := 0) tyOk rfl rfl rfl rfl rfl rfl rfl rfl (by first | rfl | omega) oM oM ?_
             refine AList.loadAl tyOk rfl rfl rfl rfl rfl oM ?_
             refine AList.move rfl rfl rfl ?_
             refine AList.idx (k := 0) tyOk rfl rfl rfl rfl rfl rfl rfl rfl (by first | rfl | omega) oM oM ?_
             refine AList.fieldPl tyOk rfl rfl rfl rfl rfl rfl rfl ?_
             refine AList.load1l tyOk rfl rfl rfl rfl rfl oM ?_
             refine AList.move rfl rfl rfl ?_
             refine AList.idx (k := 0) tyOk rfl rfl rfl rfl rfl rfl rfl rfl (by first | rfl | omega) oM oM ?_
             refine AList.fieldPl tyOk rfl rfl rfl rfl rfl rfl rfl ?_
             refine AList.load1l tyOk rfl rfl rfl rfl rfl oM ?_
             refine AList.call rfl rfl rfl rfl Try.func26 rfl (by kernel_rfl) (hP) ?_
             refine AList.move rfl rfl rfl ?_
             refine AList.extract rfl rfl rfl rfl ?_
             refine AList.extract rfl rfl rfl rfl ?_
             refine AList.alloc tyOk rfl rfl rfl rfl rfl ?_
             refine AList.store tyOk rfl rfl rfl rfl rfl rfl rfl rfl oM oM ?_
             refine AList.assign rfl rfl rfl ?_
             refine AList.nil ⟨by kernel_rfl, ?_⟩)
          | (refine AWp.draw (id := 13) mixed ?_
             refine AList.loadA tyOk rfl rfl rfl rfl rfl rfl rfl oM oM ?_
             refine AList.fieldPt tyOk rfl rfl rfl rfl rfl rfl rfl ?_
             refine AList.load1 tyOk rfl rfl rfl rfl rfl rfl rfl oM oM ?_
             refine AList.call rfl rfl rfl rfl Try.func31 rfl (by kernel_rfl) (hMa) ?_
             refine AList.fieldPt tyOk rfl rfl rfl rfl rfl rfl rfl ?_
             refine AList.load1 tyOk rfl rfl rfl rfl rfl rfl rfl oM oM ?_
             refine AList.call rfl rfl rfl rfl Try.func31 rfl (by kernel_rfl) (hMb) ?_
             refine AList.callO rfl rfl rfl rfl rfl Try.func27 rfl (by kernel_rfl) (hH) rfl (fun _ _ _ _ => rfl) ?_
             refine AList.store tyOk rfl rfl rfl rfl rfl rfl rfl rfl oM oM ?_
             refine AList.nil ⟨by kernel_rfl, ?_⟩)
          | (refine AWp.region (id := 14) ?_
             refine AList.assign rfl rfl rfl ?_
             refine AList.nil ?_))
        refine AWp.round (fun s : Nat × (Nat → Int) => mkSt 110 [(1, .c (.pt 1 5 0 0)), (4, .c (.pt 4 3 0 0)), (5, .c (.ls L.length 3 (rowF bmC bmZ L))), (6, .c (.ls Y.length 4 (rowF mtC mtZ Y))), (11, .c (.pt 11 3 0 0)), (13, .c (iC s.1))]
          [(1, ⟨false, 1, 5, 25, lF (caC c)⟩), (4, ⟨false, 1, 3, 27, lF [iC 0, iC 0, .p (.slice none 0 0)]⟩), (11, ⟨false, 1, 3, 27, lF [iC 13, iC 11, .ow 83]⟩), (83, ⟨true, 143, 1, 3, iF s.2⟩)] [1, 4, 11, 83])
          (fun s => s.1 ≤ 40 ∧ ∀ p, s.2 p = 2 ∨ s.2 p = putK L Y 0 p) (fun s => 40 - s.1) (0, hideF ((13 : Nat) : Int) (putK L Y 0) (c.fr % 13) (c.ti % 14)) ⟨Nat.zero_le _, fun p => by dsimp only [hideF]; split; exact .inl rfl; exact .inr rfl⟩ ?_ (fun s hs => ?_)
        · refine Wk.mk [(1, some 1), (4, some 4), (11, some 11), (83, some 83)] rfl rfl rfl ?_ ?_
          · repeat (first | exact trivial | refine ⟨⟨_, rfl, by first | exact LeA.c (LeC.refl _ rfl) | exact LeA.c (LeC.ow _ _ rfl) | exact LeA.c (LeC.pt _ _ _ _ _ rfl) | exact LeA.c (LeC.nil _ rfl) | exact LeA.c (LeC.nils _ _) | (refine LeA.int ?_; omega) | (refine LeA.int ?_; dsimp only; omega) | exact LeA.c (LeC.fz rfl rfl (by first | rfl | omega) (fun i _ j _ => ⟨rfl, by first | rfl | exact rowN_imm (fun _ => rfl) _ i j | exact rowF_imm (fun _ => rfl) _ i j⟩))⟩, ?_⟩)
          · repeat (first | exact trivial | refine ⟨by first | exact HeapOk.same rfl rfl rfl rfl | exact HeapOk.lent rfl rfl rfl rfl | exact HeapOk.nil rfl rfl | exact HeapOk.row rfl rfl (by first | rfl | omega) (fun i _ j _ => ⟨rfl, by first | rfl | exact rowN_imm (fun _ => rfl) _ i j | exact rowF_imm (fun _ => rfl) _ i j⟩) | exact HeapOk.box rfl rfl (by repeat (first | exact trivial | refine ⟨by first | exact LeC.refl _ rfl | exact LeC.ow _ _ rfl | exact LeC.nil _ rfl | exact LeC.nils _ _ | exact LeC.fz rfl rfl (by first | rfl | omega) (fun i _ j _ => ⟨rfl, by first | rfl | exact rowN_imm (fun _ => rfl) _ i j | exact rowF_imm (fun _ => rfl) _ i j⟩) | exact LeC.int (by omega), ?_⟩)) rfl, ?_⟩)
        · obtain ⟨k, g⟩ := s
          obtain ⟨hk, hg⟩ := hs
          dsimp only at hk hg
          dsimp only
          by_cases hkB : k < c.B
          · by_cases hk40 : k < 40
            · have hA := Mod_A (c.bl k) ((143 : Nat) : Int) (by omega) (by omega)
              have b0 := Int.emod_nonneg (c.bl k) (show (((143 : Nat) : Int)) ≠ 0 by omega)
              have b1 := Int.emod_lt_of_pos (c.bl k) (show (0 : Int) < ((143 : Nat) : Int) by omega)
              generalize c.bl k % ((143 : Nat) : Int) = u at hA b0 b1
              obtain ⟨j, rfl⟩ := Int.eq_ofNat_of_zero_le b0
              have hj : j < 143 := by omega
              repeat (first
                | refine AWp.seq ?_
                | refine thenA_n ?_
                | refine AWp.block ?_
                | refine AWp.skip ?_
                | refine inBlk_n ?_
                | refine AWp.condT rfl (by first | rfl | exact cmT) ?_
                | (refine AWp.region (id := 15) ?_
                   refine AList.move rfl rfl rfl ?_
                   refine AList.fieldPt tyOk rfl rfl rfl rfl rfl rfl rfl ?_
                   refine AList.load1 tyOk rfl rfl rfl rfl rfl rfl rfl oM oM ?_
                   refine AList.lenLs tyOk rfl rfl rfl rfl rfl ?_
                   refine AList.cmpT rfl rfl rfl rfl rfl cmT ?_
                   refine AList.move rfl rfl rfl ?_
                   refine AList.move rfl rfl rfl ?_
                   refine AList.cmpT rfl rfl rfl rfl rfl cmT ?_
                   refine AList.pickT rfl rfl rfl rfl ?_
                   refine AList.nil ?_)
                | (refine AWp.region (id := 16) ?_
                   refine AList.move rfl rfl rfl ?_
                   refine AList.add rfl rfl rfl rfl (by omega) (by omega) ?_
                   refine AList.assign rfl rfl rfl ?_
                   refine AList.nil ?_)
                | (refine AWp.draw (id := 17) mixed ?_
                   refine AList.fieldPt tyOk rfl rfl rfl rfl rfl rfl rfl ?_
                   refine AList.load1 tyOk rfl rfl rfl rfl rfl rfl rfl oM oM ?_
                   refine AList.fieldPt tyOk rfl rfl rfl rfl rfl rfl rfl ?_
                   refine AList.load1 tyOk rfl rfl rfl rfl rfl rfl rfl oM oM ?_
                   refine AList.move rfl rfl rfl ?_
                   refine AList.idx tyOk rfl rfl rfl rfl rfl rfl rfl rfl rfl oM oM ?_
                   refine AList.load1l tyOk rfl rfl rfl rfl rfl oM ?_
                   refine AList.fieldPt tyOk rfl rfl rfl rfl rfl rfl rfl ?_
                   refine AList.load1 tyOk rfl rfl rfl rfl rfl rfl rfl oM oM ?_
                   refine AList.lenOw tyOk rfl rfl rfl rfl rfl rfl rfl ?_
                   refine AList.call rfl rfl rfl rfl Try.func31 rfl (by kernel_rfl) (hA) ?_
                   refine AList.idxOw (k := j) tyOk rfl rfl rfl rfl rfl rfl rfl rfl rfl rfl (by first | rfl | omega) oM ?_
                   refine AList.store tyOk rfl rfl rfl rfl rfl rfl rfl rfl oM oM ?_
                   refine AList.nil ⟨by kernel_rfl, ?_⟩))
              refine ⟨(k + 1, fun i => if i = j then 2 else g i), ⟨by dsimp only; omega, fun p => ?_⟩, Wk.mk [(1, some 1), (4, some 4), (11, some 11), (83, some 83)] rfl rfl rfl ?_ ?_, by dsimp only; omega⟩
              · dsimp only
                split
                · exact .inl rfl
                · exact hg p
              · repeat (first | exact trivial | refine ⟨⟨_, rfl, by first | exact LeA.c (LeC.refl _ rfl) | exact LeA.c (LeC.ow _ _ rfl) | exact LeA.c (LeC.pt _ _ _ _ _ rfl) | exact LeA.c (LeC.nil _ rfl) | exact LeA.c (LeC.nils _ _) | (refine LeA.int ?_; omega) | (refine LeA.int ?_; dsimp only; omega) | exact LeA.c (LeC.fz rfl rfl (by first | rfl | omega) (fun i _ j _ => ⟨rfl, by first | rfl | exact rowN_imm (fun _ => rfl) _ i j | exact rowF_imm (fun _ => rfl) _ i j⟩))⟩, ?_⟩)
              · repeat (first | exact trivial | refine ⟨by first | exact HeapOk.same rfl rfl rfl rfl | exact HeapOk.lent rfl rfl rfl rfl | exact HeapOk.nil rfl rfl | exact HeapOk.row rfl rfl (by first | rfl | omega) (fun i _ j _ => ⟨rfl, by first | rfl | exact rowN_imm (fun _ => rfl) _ i j | exact rowF_imm (fun _ => rfl) _ i j⟩) | exact HeapOk.box rfl rfl (by repeat (first | exact trivial | refine ⟨by first | exact LeC.refl _ rfl | exact LeC.ow _ _ rfl | exact LeC.nil _ rfl | exact LeC.nils _ _ | exact LeC.fz rfl rfl (by first | rfl | omega) (fun i _ j _ => ⟨rfl, by first | rfl | exact rowN_imm (fun _ => rfl) _ i j | exact rowF_imm (fun _ => rfl) _ i j⟩) | exact LeC.int (by omega), ?_⟩)) rfl, ?_⟩)
                exact ⟨HeapOk.row rfl rfl rfl (set_one (fun i => if i = j then 2 else g i) (if_pos rfl) (fun i h => if_neg h)), trivial⟩
            · repeat (first
                | refine AWp.seq ?_
                | refine thenA_n ?_
                | refine AWp.exit ?_
                | refine AWp.ret ?_
                | refine AWp.condF rfl (by first | rfl | exact cmF) ?_
                | (refine AWp.region (id := 15) ?_
                   refine AList.move rfl rfl rfl ?_
                   refine AList.fieldPt tyOk rfl rfl rfl rfl rfl rfl rfl ?_
                   refine AList.load1 tyOk rfl rfl rfl rfl rfl rfl rfl oM oM ?_
                   refine AList.lenLs tyOk rfl rfl rfl rfl rfl ?_
                   refine AList.cmpT rfl rfl rfl rfl rfl cmT ?_
                   refine AList.move rfl rfl rfl ?_
                   refine AList.move rfl rfl rfl ?_
                   refine AList.cmpF rfl rfl rfl rfl rfl cmF ?_
                   refine AList.pickT rfl rfl rfl rfl ?_
                   refine AList.nil ?_)
                | (refine AWp.draw (id := 18) mixed ?_
                   refine AList.move rfl rfl rfl ?_
                   refine AList.move rfl rfl rfl ?_
                   refine AList.loadA tyOk rfl rfl rfl rfl rfl rfl rfl oM oM ?_
                   refine AList.assign rfl rfl rfl ?_
                   refine AList.assign rfl rfl rfl ?_
                   refine AList.store tyOk rfl rfl rfl rfl rfl rfl rfl rfl oM oM ?_
                   refine AList.nil ⟨by kernel_rfl, ?_⟩))
              refine ⟨_, ⟨L, Y, ⟨13, 11, 143, g⟩, ⟨hYL, hL5, hLo, hYo, .inr ⟨hL0, rfl, rfl, rfl, hg⟩⟩, rfl⟩, mkSt 110 [(2, .c (.ls L.length 3 (rowF bmC bmZ L))), (3, .c (.ls Y.length 4 (rowF mtC mtZ Y))), (4, .c (.pt 4 3 0 0))] [(4, ⟨false, 1, 3, 27, lF (imgV 13 11 143 g)⟩)] [4], [(4, ⟨false, 1, 3, 27, lF (imgV 13 11 143 g)⟩)], Wk.mk [(4, some 4)] rfl rfl rfl ?_ ?_, rfl, rfl, ARets.three (x := .c _) (y := .c _) (z := .ag _) (ARes.tmp rfl rfl) (ARes.tmp rfl rfl) (ARes.box tyOk rfl rfl rfl rfl rfl rfl rfl)⟩
              · repeat (first | exact trivial | refine ⟨⟨_, rfl, by first | exact LeA.c (LeC.refl _ rfl) | exact LeA.c (LeC.ow _ _ rfl) | exact LeA.c (LeC.pt _ _ _ _ _ rfl) | exact LeA.c (LeC.nil _ rfl) | exact LeA.c (LeC.nils _ _) | (refine LeA.int ?_; omega) | (refine LeA.int ?_; dsimp only; omega) | exact LeA.c (LeC.fz rfl rfl (by first | rfl | omega) (fun i _ j _ => ⟨rfl, by first | rfl | exact rowN_imm (fun _ => rfl) _ i j | exact rowF_imm (fun _ => rfl) _ i j⟩))⟩, ?_⟩)
              · repeat (first | exact trivial | refine ⟨by first | exact HeapOk.same rfl rfl rfl rfl | exact HeapOk.lent rfl rfl rfl rfl | exact HeapOk.nil rfl rfl | exact HeapOk.row rfl rfl (by first | rfl | omega) (fun i _ j _ => ⟨rfl, by first | rfl | exact rowN_imm (fun _ => rfl) _ i j | exact rowF_imm (fun _ => rfl) _ i j⟩) | exact HeapOk.box rfl rfl (by repeat (first | exact trivial | refine ⟨by first | exact LeC.refl _ rfl | exact LeC.ow _ _ rfl | exact LeC.nil _ rfl | exact LeC.nils _ _ | exact LeC.fz rfl rfl (by first | rfl | omega) (fun i _ j _ => ⟨rfl, by first | rfl | exact rowN_imm (fun _ => rfl) _ i j | exact rowF_imm (fun _ => rfl) _ i j⟩) | exact LeC.int (by omega), ?_⟩)) rfl, ?_⟩)
          · repeat (first
              | refine AWp.seq ?_
              | refine thenA_n ?_
              | refine AWp.exit ?_
              | refine AWp.ret ?_
              | refine AWp.condF rfl (by first | rfl | exact cmF) ?_
              | (refine AWp.region (id := 15) ?_
                 refine AList.move rfl rfl rfl ?_
                 refine AList.fieldPt tyOk rfl rfl rfl rfl rfl rfl rfl ?_
                 refine AList.load1 tyOk rfl rfl rfl rfl rfl rfl rfl oM oM ?_
                 refine AList.lenLs tyOk rfl rfl rfl rfl rfl ?_
                 refine AList.cmpF rfl rfl rfl rfl rfl cmF ?_
                 refine AList.move rfl rfl rfl ?_
                 refine AList.skip rfl rfl ?_
                 refine AList.skip rfl rfl ?_
                 refine AList.pickF rfl rfl rfl rfl ?_
                 refine AList.nil ?_)
              | (refine AWp.draw (id := 18) mixed ?_
                 refine AList.move rfl rfl rfl ?_
                 refine AList.move rfl rfl rfl ?_
                 refine AList.loadA tyOk rfl rfl rfl rfl rfl rfl rfl oM oM ?_
                 refine AList.assign rfl rfl rfl ?_
                 refine AList.assign rfl rfl rfl ?_
                 refine AList.store tyOk rfl rfl rfl rfl rfl rfl rfl rfl oM oM ?_
                 refine AList.nil ⟨by kernel_rfl, ?_⟩))
            refine ⟨_, ⟨L, Y, ⟨13, 11, 143, g⟩, ⟨hYL, hL5, hLo, hYo, .inr ⟨hL0, rfl, rfl, rfl, hg⟩⟩, rfl⟩, mkSt 110 [(2, .c (.ls L.length 3 (rowF bmC bmZ L))), (3, .c (.ls Y.length 4 (rowF mtC mtZ Y))), (4, .c (.pt 4 3 0 0))] [(4, ⟨false, 1, 3, 27, lF (imgV 13 11 143 g)⟩)] [4], [(4, ⟨false, 1, 3, 27, lF (imgV 13 11 143 g)⟩)], Wk.mk [(4, some 4)] rfl rfl rfl ?_ ?_, rfl, rfl, ARets.three (x := .c _) (y := .c _) (z := .ag _) (ARes.tmp rfl rfl) (ARes.tmp rfl rfl) (ARes.box tyOk rfl rfl rfl rfl rfl rfl rfl)⟩
            · repeat (first | exact trivial | refine ⟨⟨_, rfl, by first | exact LeA.c (LeC.refl _ rfl) | exact LeA.c (LeC.ow _ _ rfl) | exact LeA.c (LeC.pt _ _ _ _ _ rfl) | exact LeA.c (LeC.nil _ rfl) | exact LeA.c (LeC.nils _ _) | (refine LeA.int ?_; omega) | (refine LeA.int ?_; dsimp only; omega) | exact LeA.c (LeC.fz rfl rfl (by first | rfl | omega) (fun i _ j _ => ⟨rfl, by first | rfl | exact rowN_imm (fun _ => rfl) _ i j | exact rowF_imm (fun _ => rfl) _ i j⟩))⟩, ?_⟩)
            · repeat (first | exact trivial | refine ⟨by first | exact HeapOk.same rfl rfl rfl rfl | exact HeapOk.lent rfl rfl rfl rfl | exact HeapOk.nil rfl rfl | exact HeapOk.row rfl rfl (by first | rfl | omega) (fun i _ j _ => ⟨rfl, by first | rfl | exact rowN_imm (fun _ => rfl) _ i j | exact rowF_imm (fun _ => rfl) _ i j⟩) | exact HeapOk.box rfl rfl (by repeat (first | exact trivial | refine ⟨by first | exact LeC.refl _ rfl | exact LeC.ow _ _ rfl | exact LeC.nil _ rfl | exact LeC.nils _ _ | exact LeC.fz rfl rfl (by first | rfl | omega) (fun i _ j _ => ⟨rfl, by first | rfl | exact rowN_imm (fun _ => rfl) _ i j | exact rowF_imm (fun _ => rfl) _ i j⟩) | exact LeC.int (by omega), ?_⟩)) rfl, ?_⟩)
    · by_cases hL0 : L = []
      · have hl0 : L.length = 0 := by rw [hL0]; rfl
        have hy0 : Y = [] := List.length_eq_zero_iff.1 (by omega)
        repeat (first
          | refine AWp.seq ?_
          | refine thenA_n ?_
          | refine AWp.exit ?_
          | refine AWp.ret ?_
          | refine thenA_r ?_
          | refine AWp.condT rfl (by first | rfl | exact cmT) ?_
          | refine AWp.condF rfl (by first | rfl | exact cmF) ?_
          | (refine AWp.region (id := 5) ?_
             refine AList.move rfl rfl rfl ?_
             refine AList.fieldPt tyOk rfl rfl rfl rfl rfl rfl rfl ?_
             refine AList.load1 tyOk rfl rfl rfl rfl rfl rfl rfl oM oM ?_
             refine AList.lenLs tyOk rfl rfl rfl rfl rfl ?_
             refine AList.cmpF rfl rfl rfl rfl rfl cmF ?_
             refine AList.move rfl rfl rfl ?_
             refine AList.skip rfl rfl ?_
             refine AList.skip rfl rfl ?_
             refine AList.pickF rfl rfl rfl rfl ?_
             refine AList.nil ?_)
          | (refine AWp.region (id := 10) ?_
             refine AList.move rfl rfl rfl ?_
             refine AList.lenOw tyOk rfl rfl rfl rfl rfl rfl rfl ?_
             refine AList.cmpT rfl rfl rfl rfl rfl cmT ?_
             refine AList.nil ?_)
          | (refine AWp.region (id := 11) ?_
             refine AList.move rfl rfl rfl ?_
             refine AList.move rfl rfl rfl ?_
             refine AList.buildSt tyOk rfl rfl rfl rfl rfl rfl rfl rfl ?_
             refine AList.assign rfl rfl rfl ?_
             refine AList.assign rfl rfl rfl ?_
             refine AList.store tyOk rfl rfl rfl rfl rfl rfl rfl rfl oM oM ?_
             refine AList.nil ?_))
        refine ⟨_, ⟨L, Y, ⟨0, 0, 0, fun _ => 0⟩, ⟨hYL, hL5, hLo, hYo, .inl ⟨hL0, rfl⟩⟩, rfl⟩, mkSt 110 [(2, .c (.ls L.length 3 (rowF bmC bmZ L))), (3, .c (.ls Y.length 4 (rowF mtC mtZ Y))), (4, .c (.pt 4 3 0 0))] [(4, ⟨false, 1, 3, 27, lF (imgV 0 0 0 fun _ => 0)⟩)] [4], [(4, ⟨false, 1, 3, 27, lF (imgV 0 0 0 fun _ => 0)⟩)], Wk.mk [(4, some 4)] rfl rfl rfl ?_ ?_, rfl, rfl, ARets.three (x := .c _) (y := .c _) (z := .ag _) (ARes.tmp rfl rfl) (ARes.tmp rfl rfl) (ARes.box tyOk rfl rfl rfl rfl rfl rfl rfl)⟩
        · repeat (first | exact trivial | refine ⟨⟨_, rfl, by first | exact LeA.c (LeC.refl _ rfl) | exact LeA.c (LeC.ow _ _ rfl) | exact LeA.c (LeC.pt _ _ _ _ _ rfl) | exact LeA.c (LeC.nil _ rfl) | exact LeA.c (LeC.nils _ _) | (refine LeA.int ?_; omega) | (refine LeA.int ?_; dsimp only; omega) | exact LeA.c (LeC.fz rfl rfl (by first | rfl | omega) (fun i _ j _ => ⟨rfl, by first | rfl | exact rowN_imm (fun _ => rfl) _ i j | exact rowF_imm (fun _ => rfl) _ i j⟩))⟩, ?_⟩)
        · repeat (first | exact trivial | refine ⟨by first | exact HeapOk.same rfl rfl rfl rfl | exact HeapOk.lent rfl rfl rfl rfl | exact HeapOk.nil rfl rfl | exact HeapOk.row rfl rfl (by first | rfl | omega) (fun i _ j _ => ⟨rfl, by first | rfl | exact rowN_imm (fun _ => rfl) _ i j | exact rowF_imm (fun _ => rfl) _ i j⟩) | exact HeapOk.box rfl rfl (by repeat (first | exact trivial | refine ⟨by first | exact LeC.refl _ rfl | exact LeC.ow _ _ rfl | exact LeC.nil _ rfl | exact LeC.nils _ _ | exact LeC.fz rfl rfl (by first | rfl | omega) (fun i _ j _ => ⟨rfl, by first | rfl | exact rowN_imm (fun _ => rfl) _ i j | exact rowF_imm (fun _ => rfl) _ i j⟩) | exact LeC.int (by omega), ?_⟩)) rfl, ?_⟩)
      · have hl0 : 0 < L.length := List.length_pos_iff.2 hL0
        have hy0 : 0 < Y.length := by omega
        obtain ⟨e1, e2, e3⟩ := okBm_at hLo hl0
        have e4 := okMt_at hYo hy0
        repeat (first
          | refine AWp.seq ?_
          | refine thenA_n ?_
          | refine AWp.skip ?_
          | refine AWp.exit ?_
          | refine AWp.condF rfl (by first | rfl | exact cmF) ?_
          | (refine AWp.region (id := 5) ?_
             refine AList.move rfl rfl rfl ?_
             refine AList.fieldPt tyOk rfl rfl rfl rfl rfl rfl rfl ?_
             refine AList.load1 tyOk rfl rfl rfl rfl rfl rfl rfl oM oM ?_
             refine AList.lenLs tyOk rfl rfl rfl rfl rfl ?_
             refine AList.cmpF rfl rfl rfl rfl rfl cmF ?_
             refine AList.move rfl rfl rfl ?_
             refine AList.skip rfl rfl ?_
             refine AList.skip rfl rfl ?_
             refine AList.pickF rfl rfl rfl rfl ?_
             refine AList.nil ?_)
          | (refine AWp.region (id := 10) ?_
             refine AList.move rfl rfl rfl ?_
             refine AList.lenOw tyOk rfl rfl rfl rfl rfl rfl rfl ?_
             refine AList.cmpF rfl rfl rfl rfl rfl cmF ?_
             refine AList.nil ?_))
        refine AWp.weak (S' := mkSt 110 [(1, .c (.pt 1 5 0 0)), (4, .c (.pt 4 3 0 0)), (5, .c (.ls L.length 3 (rowF bmC bmZ L))), (6, .c (.ls Y.length 4 (rowF mtC mtZ Y)))]
          [(1, ⟨false, 1, 5, 25, lF (caC c)⟩), (4, ⟨false, 1, 3, 27, lF [iC 0, iC 0, .p (.slice none 0 0)]⟩)] [1, 4]) (Wk.mk [(1, some 1), (4, some 4)] rfl rfl rfl ?_ ?_) ?_
        · repeat (first | exact trivial | refine ⟨⟨_, rfl, by first | exact LeA.c (LeC.refl _ rfl) | exact LeA.c (LeC.ow _ _ rfl) | exact LeA.c (LeC.pt _ _ _ _ _ rfl) | exact LeA.c (LeC.nil _ rfl) | exact LeA.c (LeC.nils _ _) | (refine LeA.int ?_; omega) | (refine LeA.int ?_; dsimp only; omega) | exact LeA.c (LeC.fz rfl rfl (by first | rfl | omega) (fun i _ j _ => ⟨rfl, by first | rfl | exact rowN_imm (fun _ => rfl) _ i j | exact rowF_imm (fun _ => rfl) _ i j⟩))⟩, ?_⟩)
        · repeat (first | exact trivial | refine ⟨by first | exact HeapOk.same rfl rfl rfl rfl | exact HeapOk.lent rfl rfl rfl rfl | exact HeapOk.nil rfl rfl | exact HeapOk.row rfl rfl (by first | rfl | omega) (fun i _ j _ => ⟨rfl, by first | rfl | exact rowN_imm (fun _ => rfl) _ i j | exact rowF_imm (fun _ => rfl) _ i j⟩) | exact HeapOk.box rfl rfl (by repeat (first | exact trivial | refine ⟨by first | exact LeC.refl _ rfl | exact LeC.ow _ _ rfl | exact LeC.nil _ rfl | exact LeC.nils _ _ | exact LeC.fz rfl rfl (by first | rfl | omega) (fun i _ j _ => ⟨rfl, by first | rfl | exact rowN_imm (fun _ => rfl) _ i j | exact rowF_imm (fun _ => rfl) _ i j⟩) | exact LeC.int (by omega), ?_⟩)) rfl, ?_⟩)
        have hP : ACalls Try.prog 26 [.ag (bmC (L.getD 0 bmZ)), .c (iC (Y.getD 0 mtZ).dx), .c (iC (Y.getD 0 mtZ).dy)] (.tu [.ag (imgV 13 11 143 (putK L Y 0)), .c (iC 0)]) := by
          have h := rPut_A (L.getD 0 bmZ).W (L.getD 0 bmZ).H (L.getD 0 bmZ).n (L.getD 0 bmZ).d (Y.getD 0 mtZ).dx (Y.getD 0 mtZ).dy
          show ACalls Try.prog 26 [.ag (bmpV (L.getD 0 bmZ).W (L.getD 0 bmZ).H (L.getD 0 bmZ).n (L.getD 0 bmZ).d), _, _] _
          rw [e1, e2, e3] at h ⊢
          rw [putV, if_pos (put9 e4)] at h
          exact h
        have hok : chkI ((13 : Nat) : Int) ((11 : Nat) : Int) 143 (putK L Y 0) = 0 := chk13 fun p _ => ⟨(putF_bd _ _ _ _ _ p).1, Int.le_trans (putF_bd _ _ _ _ _ p).2 (by decide)⟩
        have hH := Hide_O 13 11 143 (putK L Y 0) (c.fr % 13) (c.ti % 14) hok
        have hMa := Mod_A c.fr 13 (by omega) (by omega)
        have hMb := Mod_A c.ti 14 (by omega) (by omega)
        repeat (first
          | refine AWp.seq ?_
          | refine thenA_n ?_
          | refine AWp.block ?_
          | (refine AWp.draw (id := 12) mixed ?_
             refine AList.move rfl rfl rfl ?_
             refine AList.idx (k := 0) tyOk rfl rfl rfl rfl rfl rfl rfl rfl (by first | rfl | omega) oM oM ?_
             refine AList.loadAl tyOk rfl rfl rfl rfl rfl oM ?_
             refine AList.move rfl rfl rfl ?_
             refine AList.idx (k := 0) tyOk rfl rfl rfl rfl rfl rfl rfl rfl (by first | rfl | omega) oM oM ?_
             refine AList.fieldPl tyOk rfl rfl rfl rfl rfl rfl rfl ?_
             refine AList.load1l tyOk rfl rfl rfl rfl rfl oM ?_
             refine AList.move rfl rfl rfl ?_
             refine AList.idx (k := 0) tyOk rfl rfl rfl rfl rfl rfl rfl rfl (by first | rfl | omega) oM oM ?_
             refine AList.fieldPl tyOk rfl rfl rfl rfl rfl rfl rfl ?_
             refine AList.load1l tyOk rfl rfl rfl rfl rfl oM ?_
             refine AList.call rfl rfl rfl rfl Try.func26 rfl (by kernel_rfl) (hP) ?_
             refine AList.move rfl rfl rfl ?_
             refine AList.extract rfl rfl rfl rfl ?_
             refine AList.extract rfl rfl rfl rfl ?_
             refine AList.alloc tyOk rfl rfl rfl rfl rfl ?_
             refine AList.store tyOk rfl rfl rfl rfl rfl rfl rfl rfl oM oM ?_
             refine AList.assign rfl rfl rfl ?_
             refine AList.nil ⟨by kernel_rfl, ?_⟩)
          | (refine AWp.draw (id := 13) mixed ?_
             refine AList.loadA tyOk rfl rfl rfl rfl rfl rfl rfl oM oM ?_
             refine AList.fieldPt tyOk rfl rfl rfl rfl rfl rfl rfl ?_
             refine AList.load1 tyOk rfl rfl rfl rfl rfl rfl rfl oM oM ?_
             refine AList.call rfl rfl rfl rfl Try.func31 rfl (by kernel_rfl) (hMa) ?_
             refine AList.fieldPt tyOk rfl rfl rfl rfl rfl rfl rfl ?_
             refine AList.load1 tyOk rfl rfl rfl rfl rfl rfl rfl oM oM ?_
             refine AList.call rfl rfl rfl rfl Try.func31 rfl (by kernel_rfl) (hMb) ?_
             refine AList.callO rfl rfl rfl rfl rfl Try.func27 rfl (by kernel_rfl) (hH) rfl (fun _ _ _ _ => rfl) ?_
             refine AList.store tyOk rfl rfl rfl rfl rfl rfl rfl rfl oM oM ?_
             refine AList.nil ⟨by kernel_rfl, ?_⟩)
          | (refine AWp.region (id := 14) ?_
             refine AList.assign rfl rfl rfl ?_
             refine AList.nil ?_))
        refine AWp.round (fun s : Nat × (Nat → Int) => mkSt 110 [(1, .c (.pt 1 5 0 0)), (4, .c (.pt 4 3 0 0)), (5, .c (.ls L.length 3 (rowF bmC bmZ L))), (6, .c (.ls Y.length 4 (rowF mtC mtZ Y))), (11, .c (.pt 11 3 0 0)), (13, .c (iC s.1))]
          [(1, ⟨false, 1, 5, 25, lF (caC c)⟩), (4, ⟨false, 1, 3, 27, lF [iC 0, iC 0, .p (.slice none 0 0)]⟩), (11, ⟨false, 1, 3, 27, lF [iC 13, iC 11, .ow 83]⟩), (83, ⟨true, 143, 1, 3, iF s.2⟩)] [1, 4, 11, 83])
          (fun s => s.1 ≤ 40 ∧ ∀ p, s.2 p = 2 ∨ s.2 p = putK L Y 0 p) (fun s => 40 - s.1) (0, hideF ((13 : Nat) : Int) (putK L Y 0) (c.fr % 13) (c.ti % 14)) ⟨Nat.zero_le _, fun p => by dsimp only [hideF]; split; exact .inl rfl; exact .inr rfl⟩ ?_ (fun s hs => ?_)
        · refine Wk.mk [(1, some 1), (4, some 4), (11, some 11), (83, some 83)] rfl rfl rfl ?_ ?_
          · repeat (first | exact trivial | refine ⟨⟨_, rfl, by first | exact LeA.c (LeC.refl _ rfl) | exact LeA.c (LeC.ow _ _ rfl) | exact LeA.c (LeC.pt _ _ _ _ _ rfl) | exact LeA.c (LeC.nil _ rfl) | exact LeA.c (LeC.nils _ _) | (refine LeA.int ?_; omega) | (refine LeA.int ?_; dsimp only; omega) | exact LeA.c (LeC.fz rfl rfl (by first | rfl | omega) (fun i _ j _ => ⟨rfl, by first | rfl | exact rowN_imm (fun _ => rfl) _ i j | exact rowF_imm (fun _ => rfl) _ i j⟩))⟩, ?_⟩)
          · repeat (first | exact trivial | refine ⟨by first | exact HeapOk.same rfl rfl rfl rfl | exact HeapOk.lent rfl rfl rfl rfl | exact HeapOk.nil rfl rfl | exact HeapOk.row rfl rfl (by first | rfl | omega) (fun i _ j _ => ⟨rfl, by first | rfl | exact rowN_imm (fun _ => rfl) _ i j | exact rowF_imm (fun _ => rfl) _ i j⟩) | exact HeapOk.box rfl rfl (by repeat (first | exact trivial | refine ⟨by first | exact LeC.refl _ rfl | exact LeC.ow _ _ rfl | exact LeC.nil _ rfl | exact LeC.nils _ _ | exact LeC.fz rfl rfl (by first | rfl | omega) (fun i _ j _ => ⟨rfl, by first | rfl | exact rowN_imm (fun _ => rfl) _ i j | exact rowF_imm (fun _ => rfl) _ i j⟩) | exact LeC.int (by omega), ?_⟩)) rfl, ?_⟩)
        · obtain ⟨k, g⟩ := s
          obtain ⟨hk, hg⟩ := hs
          dsimp only at hk hg
          dsimp only
          by_cases hkB : k < c.B
          · by_cases hk40 : k < 40
            · have hA := Mod_A (c.bl k) ((143 : Nat) : Int) (by omega) (by omega)
              have b0 := Int.emod_nonneg (c.bl k) (show (((143 : Nat) : Int)) ≠ 0 by omega)
              have b1 := Int.emod_lt_of_pos (c.bl k) (show (0 : Int) < ((143 : Nat) : Int) by omega)
              generalize c.bl k % ((143 : Nat) : Int) = u at hA b0 b1
              obtain ⟨j, rfl⟩ := Int.eq_ofNat_of_zero_le b0
              have hj : j < 143 := by omega
              repeat (first
                | refine AWp.seq ?_
                | refine thenA_n ?_
                | refine AWp.block ?_
                | refine AWp.skip ?_
                | refine inBlk_n ?_
                | refine AWp.condT rfl (by first | rfl | exact cmT) ?_
                | (refine AWp.region (id := 15) ?_
                   refine AList.move rfl rfl rfl ?_
                   refine AList.fieldPt tyOk rfl rfl rfl rfl rfl rfl rfl ?_
                   refine AList.load1 tyOk rfl rfl rfl rfl rfl rfl rfl oM oM ?_
                   refine AList.lenLs tyOk rfl rfl rfl rfl rfl ?_
                   refine AList.cmpT rfl rfl rfl rfl rfl cmT ?_
                   refine AList.move rfl rfl rfl ?_
                   refine AList.move rfl rfl rfl ?_
                   refine AList.cmpT rfl rfl rfl rfl rfl cmT ?_
                   refine AList.pickT rfl rfl rfl rfl ?_
                   refine AList.nil ?_)
                | (refine AWp.region (id := 16) ?_
                   refine AList.move rfl rfl rfl ?_
                   refine AList.add rfl rfl rfl rfl (by omega) (by omega) ?_
                   refine AList.assign rfl rfl rfl ?_
                   refine AList.nil ?_)
                | (refine AWp.draw (id := 17) mixed ?_
                   refine AList.fieldPt tyOk rfl rfl rfl rfl rfl rfl rfl ?_
                   refine AList.load1 tyOk rfl rfl rfl rfl rfl rfl rfl oM oM ?_
                   refine AList.fieldPt tyOk rfl rfl rfl rfl rfl rfl rfl ?_
                   refine AList.load1 tyOk rfl rfl rfl rfl rfl rfl rfl oM oM ?_
                   refine AList.move rfl rfl rfl ?_
                   refine AList.idx tyOk rfl rfl rfl rfl rfl rfl rfl rfl rfl oM oM ?_
                   refine AList.load1l tyOk rfl rfl rfl rfl rfl oM ?_
                   refine AList.fieldPt tyOk rfl rfl rfl rfl rfl rfl rfl ?_
                   refine AList.load1 tyOk rfl rfl rfl rfl rfl rfl rfl oM oM ?_
                   refine AList.lenOw tyOk rfl rfl rfl rfl rfl rfl rfl ?_
                   refine AList.call rfl rfl rfl rfl Try.func31 rfl (by kernel_rfl) (hA) ?_
                   refine AList.idxOw (k := j) tyOk rfl rfl rfl rfl rfl rfl rfl rfl rfl rfl (by first | rfl | omega) oM ?_
                   refine AList.store tyOk rfl rfl rfl rfl rfl rfl rfl rfl oM oM ?_
                   refine AList.nil ⟨by kernel_rfl, ?_⟩))
              refine ⟨(k + 1, fun i => if i = j then 2 else g i), ⟨by dsimp only; omega, fun p => ?_⟩, Wk.mk [(1, some 1), (4, some 4), (11, some 11), (83, some 83)] rfl rfl rfl ?_ ?_, by dsimp only; omega⟩
              · dsimp only
                split
                · exact .inl rfl
                · exact hg p
              · repeat (first | exact trivial | refine ⟨⟨_, rfl, by first | exact LeA.c (LeC.refl _ rfl) | exact LeA.c (LeC.ow _ _ rfl) | exact LeA.c (LeC.pt _ _ _ _ _ rfl) | exact LeA.c (LeC.nil _ rfl) | exact LeA.c (LeC.nils _ _) | (refine LeA.int ?_; omega) | (refine LeA.int ?_; dsimp only; omega) | exact LeA.c (LeC.fz rfl rfl (by first | rfl | omega) (fun i _ j _ => ⟨rfl, by first | rfl | exact rowN_imm (fun _ => rfl) _ i j | exact rowF_imm (fun _ => rfl) _ i j⟩))⟩, ?_⟩)
              · repeat (first | exact trivial | refine ⟨by first | exact HeapOk.same rfl rfl rfl rfl | exact HeapOk.lent rfl rfl rfl rfl | exact HeapOk.nil rfl rfl | exact HeapOk.row rfl rfl (by first | rfl | omega) (fun i _ j _ => ⟨rfl, by first | rfl | exact rowN_imm (fun _ => rfl) _ i j | exact rowF_imm (fun _ => rfl) _ i j⟩) | exact HeapOk.box rfl rfl (by repeat (first | exact trivial | refine ⟨by first | exact LeC.refl _ rfl | exact LeC.ow _ _ rfl | exact LeC.nil _ rfl | exact LeC.nils _ _ | exact LeC.fz rfl rfl (by first | rfl | omega) (fun i _ j _ => ⟨rfl, by first | rfl | exact rowN_imm (fun _ => rfl) _ i j | exact rowF_imm (fun _ => rfl) _ i j⟩) | exact LeC.int (by omega), ?_⟩)) rfl, ?_⟩)
                exact ⟨HeapOk.row rfl rfl rfl (set_one (fun i => if i = j then 2 else g i) (if_pos rfl) (fun i h => if_neg h)), trivial⟩
            · repeat (first
                | refine AWp.seq ?_
                | refine thenA_n ?_
                | refine AWp.exit ?_
                | refine AWp.ret ?_
                | refine AWp.condF rfl (by first | rfl | exact cmF) ?_
                | (refine AWp.region (id := 15) ?_
                   refine AList.move rfl rfl rfl ?_
                   refine AList.fieldPt tyOk rfl rfl rfl rfl rfl rfl rfl ?_
                   refine AList.load1 tyOk rfl rfl rfl rfl rfl rfl rfl oM oM ?_
                   refine AList.lenLs tyOk rfl rfl rfl rfl rfl ?_
                   refine AList.cmpT rfl rfl rfl rfl rfl cmT ?_
                   refine AList.move rfl rfl rfl ?_
                   refine AList.move rfl rfl rfl ?_
                   refine AList.cmpF rfl rfl rfl rfl rfl cmF ?_
                   refine AList.pickT rfl rfl rfl rfl ?_
                   refine AList.nil ?_)
                | (refine AWp.draw (id := 18) mixed ?_
                   refine AList.move rfl rfl rfl ?_
                   refine AList.move rfl rfl rfl ?_
                   refine AList.loadA tyOk rfl rfl rfl rfl rfl rfl rfl oM oM ?_
                   refine AList.assign rfl rfl rfl ?_
                   refine AList.assign rfl rfl rfl ?_
                   refine AList.store tyOk rfl rfl rfl rfl rfl rfl rfl rfl oM oM ?_
                   refine AList.nil ⟨by kernel_rfl, ?_⟩))
              refine ⟨_, ⟨L, Y, ⟨13, 11, 143, g⟩, ⟨hYL, hL5, hLo, hYo, .inr ⟨hL0, rfl, rfl, rfl, hg⟩⟩, rfl⟩, mkSt 110 [(2, .c (.ls L.length 3 (rowF bmC bmZ L))), (3, .c (.ls Y.length 4 (rowF mtC mtZ Y))), (4, .c (.pt 4 3 0 0))] [(4, ⟨false, 1, 3, 27, lF (imgV 13 11 143 g)⟩)] [4], [(4, ⟨false, 1, 3, 27, lF (imgV 13 11 143 g)⟩)], Wk.mk [(4, some 4)] rfl rfl rfl ?_ ?_, rfl, rfl, ARets.three (x := .c _) (y := .c _) (z := .ag _) (ARes.tmp rfl rfl) (ARes.tmp rfl rfl) (ARes.box tyOk rfl rfl rfl rfl rfl rfl rfl)⟩
              · repeat (first | exact trivial | refine ⟨⟨_, rfl, by first | exact LeA.c (LeC.refl _ rfl) | exact LeA.c (LeC.ow _ _ rfl) | exact LeA.c (LeC.pt _ _ _ _ _ rfl) | exact LeA.c (LeC.nil _ rfl) | exact LeA.c (LeC.nils _ _) | (refine LeA.int ?_; omega) | (refine LeA.int ?_; dsimp only; omega) | exact LeA.c (LeC.fz rfl rfl (by first | rfl | omega) (fun i _ j _ => ⟨rfl, by first | rfl | exact rowN_imm (fun _ => rfl) _ i j | exact rowF_imm (fun _ => rfl) _ i j⟩))⟩, ?_⟩)
              · repeat (first | exact trivial | refine ⟨by first | exact HeapOk.same rfl rfl rfl rfl | exact HeapOk.lent rfl rfl rfl rfl | exact HeapOk.nil rfl rfl | exact HeapOk.row rfl rfl (by first | rfl | omega) (fun i _ j _ => ⟨rfl, by first | rfl | exact rowN_imm (fun _ => rfl) _ i j | exact rowF_imm (fun _ => rfl) _ i j⟩) | exact HeapOk.box rfl rfl (by repeat (first | exact trivial | refine ⟨by first | exact LeC.refl _ rfl | exact LeC.ow _ _ rfl | exact LeC.nil _ rfl | exact LeC.nils _ _ | exact LeC.fz rfl rfl (by first | rfl | omega) (fun i _ j _ => ⟨rfl, by first | rfl | exact rowN_imm (fun _ => rfl) _ i j | exact rowF_imm (fun _ => rfl) _ i j⟩) | exact LeC.int (by omega), ?_⟩)) rfl, ?_⟩)
          · repeat (first
              | refine AWp.seq ?_
              | refine thenA_n ?_
              | refine AWp.exit ?_
              | refine AWp.ret ?_
              | refine AWp.condF rfl (by first | rfl | exact cmF) ?_
              | (refine AWp.region (id := 15) ?_
                 refine AList.move rfl rfl rfl ?_
                 refine AList.fieldPt tyOk rfl rfl rfl rfl rfl rfl rfl ?_
                 refine AList.load1 tyOk rfl rfl rfl rfl rfl rfl rfl oM oM ?_
                 refine AList.lenLs tyOk rfl rfl rfl rfl rfl ?_
                 refine AList.cmpF rfl rfl rfl rfl rfl cmF ?_
                 refine AList.move rfl rfl rfl ?_
                 refine AList.skip rfl rfl ?_
                 refine AList.skip rfl rfl ?_
                 refine AList.pickF rfl rfl rfl rfl ?_
                 refine AList.nil ?_)
              | (refine AWp.draw (id := 18) mixed ?_
                 refine AList.move rfl rfl rfl ?_
                 refine AList.move rfl rfl rfl ?_
                 refine AList.loadA tyOk rfl rfl rfl rfl rfl rfl rfl oM oM ?_
                 refine AList.assign rfl rfl rfl ?_
                 refine AList.assign rfl rfl rfl ?_
                 refine AList.store tyOk rfl rfl rfl rfl rfl rfl rfl rfl oM oM ?_
                 refine AList.nil ⟨by kernel_rfl, ?_⟩))
            refine ⟨_, ⟨L, Y, ⟨13, 11, 143, g⟩, ⟨hYL, hL5, hLo, hYo, .inr ⟨hL0, rfl, rfl, rfl, hg⟩⟩, rfl⟩, mkSt 110 [(2, .c (.ls L.length 3 (rowF bmC bmZ L))), (3, .c (.ls Y.length 4 (rowF mtC mtZ Y))), (4, .c (.pt 4 3 0 0))] [(4, ⟨false, 1, 3, 27, lF (imgV 13 11 143 g)⟩)] [4], [(4, ⟨false, 1, 3, 27, lF (imgV 13 11 143 g)⟩)], Wk.mk [(4, some 4)] rfl rfl rfl ?_ ?_, rfl, rfl, ARets.three (x := .c _) (y := .c _) (z := .ag _) (ARes.tmp rfl rfl) (ARes.tmp rfl rfl) (ARes.box tyOk rfl rfl rfl rfl rfl rfl rfl)⟩
            · repeat (first | exact trivial | refine ⟨⟨_, rfl, by first | exact LeA.c (LeC.refl _ rfl) | exact LeA.c (LeC.ow _ _ rfl) | exact LeA.c (LeC.pt _ _ _ _ _ rfl) | exact LeA.c (LeC.nil _ rfl) | exact LeA.c (LeC.nils _ _) | (refine LeA.int ?_; omega) | (refine LeA.int ?_; dsimp only; omega) | exact LeA.c (LeC.fz rfl rfl (by first | rfl | omega) (fun i _ j _ => ⟨rfl, by first | rfl | exact rowN_imm (fun _ => rfl) _ i j | exact rowF_imm (fun _ => rfl) _ i j⟩))⟩, ?_⟩)
            · repeat (first | exact trivial | refine ⟨by first | exact HeapOk.same rfl rfl rfl rfl | exact HeapOk.lent rfl rfl rfl rfl | exact HeapOk.nil rfl rfl | exact HeapOk.row rfl rfl (by first | rfl | omega) (fun i _ j _ => ⟨rfl, by first | rfl | exact rowN_imm (fun _ => rfl) _ i j | exact rowF_imm (fun _ => rfl) _ i j⟩) | exact HeapOk.box rfl rfl (by repeat (first | exact trivial | refine ⟨by first | exact LeC.refl _ rfl | exact LeC.ow _ _ rfl | exact LeC.nil _ rfl | exact LeC.nils _ _ | exact LeC.fz rfl rfl (by first | rfl | omega) (fun i _ j _ => ⟨rfl, by first | rfl | exact rowN_imm (fun _ => rfl) _ i j | exact rowF_imm (fun _ => rfl) _ i j⟩) | exact LeC.int (by omega), ?_⟩)) rfl, ?_⟩)
end Go.Proofs.Ytcdnpnbjloaihaa
end
