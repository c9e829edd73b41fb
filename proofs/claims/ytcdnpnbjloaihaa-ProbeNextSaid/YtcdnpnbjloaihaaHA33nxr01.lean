/- ProbeNext: the statement. No condition. -/
import Derived.Test.YtcdnpnbjloaihaaG35
import Derived.Test.YtcdnpnbjloaihaaRows
import Derived.Test.YtcdnpnbjloaihaaG36
set_option linter.unusedSimpArgs false
set_option linter.unusedVariables false
section
/- Chapter 33: the law ProbeNext over plain values. -/
namespace Go.Proofs.Ytcdnpnbjloaihaa
open Go.RowKit Go.Flow Go.AV Go.Plain
abbrev ar3L (x y z : Im) : List CV := imC x ++ imC y ++ imC z
def ar3I (x y z : Im) (i : Nat) : Im := match i with | 0 => x | 1 => y | _ => z
theorem ar3_cells (x y z : Im) {i : Nat} (h : i < 3) : ((ar3L x y z).drop (i * 3)).take 3 = imC (ar3I x y z i) := by
  match i, h with
  | 0, _ => rfl
  | 1, _ => rfl
  | 2, _ => rfl
theorem rect_neF (r : Rc) (w : World) : (Go.binOp .neq 29 (.agg #[.int .i64 r.1, .int .i64 r.2.1, .int .i64 r.2.2.1, .int .i64 r.2.2.2]) (.agg #[.int .i64 r.1, .int .i64 r.2.1, .int .i64 r.2.2.1, .int .i64 r.2.2.2])).run Try.prog w = .ok (.bool false) w := by
  rw [rect_ne r r w, decide_eq_true rfl]
  rfl
set_option maxHeartbeats 1000000 in
set_option maxRecDepth 100000 in
theorem ProbeNext_A (c : Case) (W H : Int) (n : Nat) (f : Nat → Int) (Wb Hb : Int) (nb : Nat) (db : Nat → Bool) (mt : Mt) (q : Int) (hc : c.ok) (hn : n ≤ 4611686018427387904) (hnb : nb ≤ 4611686018427387904) (hq : -9223372036854775808 ≤ q ∧ q ≤ 9223372036854775807) :
    ECalls Try.prog 4 [.ag (caC c), .ag (imgV W H n f), .ag (bmpV Wb Hb nb db), .ag (mtC mt), .c (iC q)] (fun v => v = .c (bC true)) := by
  have hCut := cut_A W H n f
  refine ecalls_at Try.func4 rfl rfl Try.ntmps4 rfl ?_
  repeat (first
    | refine AWp.seq ?_
    | (refine AWp.region (id := 0) ?_
       refine AList.box rfl rfl rfl rfl rfl ?_
       refine AList.box rfl rfl rfl rfl rfl ?_
       refine AList.box rfl rfl rfl rfl rfl ?_
       refine AList.box rfl rfl rfl rfl rfl ?_
       refine AList.assign rfl rfl rfl ?_
       refine AList.nil ?_)
    | (refine AWp.region (id := 1) ?_
       refine AList.call rfl rfl rfl rfl Try.func9 rfl (by kernel_rfl) (sanity_A) ?_
       refine AList.assign rfl rfl rfl ?_
       refine AList.nil ?_))
  refine AWp.text ?_
  refine AText.split 1 ?_
  refine AList.loadA tyOk rfl rfl rfl rfl rfl rfl rfl oM oM ?_
  refine AList.nil ?_
  refine AText.callE rfl rfl rfl rfl Try.func10 rfl (by kernel_rfl) (made_E c hc) ?_
  rintro _ ⟨L, Y, x, hx, rfl⟩
  refine AText.all ?_
  refine AList.move rfl rfl rfl ?_
  refine AList.extract rfl rfl rfl rfl ?_
  refine AList.extract rfl rfl rfl rfl ?_
  refine AList.extract rfl rfl rfl rfl ?_
  refine AList.alloc tyOk rfl rfl rfl rfl rfl ?_
  refine AList.assign rfl rfl rfl ?_
  refine AList.assign rfl rfl rfl ?_
  refine AList.store tyOk rfl rfl rfl rfl rfl rfl rfl rfl oM oM ?_
  refine AList.nil ?_
  obtain ⟨W', H', mm, g, hm, hO⟩ := Odd_A x.W x.H x.n x.f q hx.bds.1 (by have := hx.bds.2; omega) hq
  have hL5 : L.length ≤ 5 := hx.2.1
  have hY5 : Y.length ≤ 5 := by have := hx.1; omega
  have e2 : min (nb : Int) 60 = ((min nb 60 : Nat) : Int) := by omega
  have e3 : min nb 60 ≤ nb := by omega
  generalize min nb 60 = nb' at e2 e3
  repeat (first
    | refine AWp.seq ?_
    | (refine AWp.region (id := 3) ?_
       refine AList.fieldPt tyOk rfl rfl rfl rfl rfl rfl rfl ?_
       refine AList.load1 tyOk rfl rfl rfl rfl rfl rfl rfl oM oM ?_
       refine AList.fieldPt tyOk rfl rfl rfl rfl rfl rfl rfl ?_
       refine AList.load1 tyOk rfl rfl rfl rfl rfl rfl rfl oM oM ?_
       refine AList.lenLs tyOk rfl rfl rfl rfl rfl ?_
       refine AList.minI rfl rfl rfl rfl ?_
       refine AList.cut (l := 0) (h := nb') tyOk rfl rfl rfl rfl rfl rfl rfl rfl ⟨_, _, rfl, by first | rfl | omega⟩ (by omega) (by omega) ?_
       refine AList.fieldPt tyOk rfl rfl rfl rfl rfl rfl rfl ?_
       refine AList.store tyOk rfl rfl rfl rfl rfl rfl rfl rfl oM oM ?_
       refine AList.nil ?_))
  refine AWp.weak (S' := mkSt 116 [(4, .c (iC q)), (6, .c (.pt 6 3 0 0)), (7, .c (.pt 7 3 0 0)), (8, .c (.pt 8 4 0 0)), (11, .c (bC true)), (12, .c (.ls L.length 3 (rowF bmC bmZ L))), (13, .c (.ls Y.length 4 (rowF mtC mtZ Y))), (14, .c (.pt 14 3 0 0))]
    [(6, ⟨false, 1, 3, 27, lF (imgV W H n f)⟩), (7, ⟨false, 1, 3, 48, lF (bmpV Wb Hb nb' db)⟩), (8, ⟨false, 1, 4, 50, lF (mtC mt)⟩), (14, ⟨false, 1, 3, 27, lF (imC x)⟩)] [6, 7, 8, 14]) (Wk.mk [(6, some 6), (7, some 7), (8, some 8), (14, some 14)] rfl rfl rfl ?_ ?_) ?_
  · repeat (first | exact trivial | refine ⟨⟨_, rfl, by first | exact LeA.c (LeC.refl _ rfl) | exact LeA.c (LeC.ow _ _ rfl) | exact LeA.c (LeC.pt _ _ _ _ _ rfl) | exact LeA.c (LeC.nil _ rfl) | exact LeA.c (LeC.nils _ _) | (refine LeA.int ?_; omega) | (refine LeA.int ?_; dsimp only; omega) | exact LeA.c (LeC.fz rfl rfl (by first | rfl | omega) (fun i _ j _ => ⟨rfl, by first | rfl | exact rowN_imm (fun _ => rfl) _ i j | exact rowF_imm (fun _ => rfl) _ i j⟩))⟩, ?_⟩)
  · exact ⟨HeapOk.same rfl rfl rfl rfl, HeapOk.box rfl rfl ⟨LeC.int rfl, LeC.int rfl, LeC.lz rfl (fun _ _ _ _ => by rw [Nat.zero_add]), trivial⟩ rfl, HeapOk.same rfl rfl rfl rfl, HeapOk.same rfl rfl rfl rfl, trivial⟩
  repeat (first
    | refine AWp.seq ?_
    | refine thenA_n ?_
    | refine AWp.block ?_
    | (refine AWp.draw (id := 4) mixed ?_
       refine AList.emptySl tyOk rfl rfl rfl rfl rfl rfl rfl ?_
       refine AList.move rfl rfl rfl ?_
       refine AList.appL0 tyOk rfl rfl rfl rfl rfl rfl rfl rfl rfl rfl oM oM ?_
       refine AList.loadA tyOk rfl rfl rfl rfl rfl rfl rfl oM oM ?_
       refine AList.litSl tyOk rfl rfl rfl rfl rfl rfl rfl rfl rfl rfl rfl ?_
       refine AList.appL tyOk rfl rfl rfl rfl rfl rfl rfl rfl rfl rfl oM oM ?_
       refine AList.assign rfl rfl rfl ?_
       refine AList.nil ⟨by kernel_rfl, ?_⟩)
    | (refine AWp.draw (id := 5) mixed ?_
       refine AList.emptySl tyOk rfl rfl rfl rfl rfl rfl rfl ?_
       refine AList.move rfl rfl rfl ?_
       refine AList.appL0 tyOk rfl rfl rfl rfl rfl rfl rfl rfl rfl rfl oM oM ?_
       refine AList.loadA tyOk rfl rfl rfl rfl rfl rfl rfl oM oM ?_
       refine AList.litSl tyOk rfl rfl rfl rfl rfl rfl rfl rfl rfl rfl rfl ?_
       refine AList.appL tyOk rfl rfl rfl rfl rfl rfl rfl rfl rfl rfl oM oM ?_
       refine AList.assign rfl rfl rfl ?_
       refine AList.nil ⟨by kernel_rfl, ?_⟩)
    | (refine AWp.draw (id := 6) mixed ?_
       refine AList.loadA tyOk rfl rfl rfl rfl rfl rfl rfl oM oM ?_
       refine AList.loadA tyOk rfl rfl rfl rfl rfl rfl rfl oM oM ?_
       refine AList.move rfl rfl rfl ?_
       refine AList.call rfl rfl rfl rfl Try.func11 rfl (by kernel_rfl) (hO) ?_
       refine AList.loadA tyOk rfl rfl rfl rfl rfl rfl rfl oM oM ?_
       refine AList.call rfl rfl rfl rfl Try.func12 rfl (by kernel_rfl) (hCut) ?_
       refine AList.buildArr tyOk rfl rfl rfl rfl rfl rfl rfl rfl ?_
       refine AList.move rfl rfl rfl ?_
       refine AList.nil ⟨by kernel_rfl, ?_⟩))
  obtain ⟨L1, hL1⟩ : ∃ L1, L1 = L ++ [(⟨Wb, Hb, nb', db⟩ : Bm)] := ⟨_, rfl⟩
  obtain ⟨Y1, hY1⟩ : ∃ Y1, Y1 = Y ++ [mt] := ⟨_, rfl⟩
  have hl1 : L1.length = L.length + 1 := by rw [hL1]; simp
  have hy1 : Y1.length = Y.length + 1 := by rw [hY1]; simp
  refine AWp.round (fun i : Nat => mkSt 116 ([(11, .c (bC true)), (12, .c (.ls L.length 3 (rowF bmC bmZ L))), (13, .c (.ls Y.length 4 (rowF mtC mtZ Y))), (15, .c (.ls L1.length 3 (rowF bmC bmZ L1))), (16, .c (.ls Y1.length 4 (rowF mtC mtZ Y1))), (61, .ag (ar3L x ⟨W', H', mm, g⟩ ⟨W, H, min n 150, f⟩)), (62, .c (iC i))]) [] []) (fun i => i ≤ 3) (fun i => 3 - i) 0 (Nat.zero_le _) ?_ (fun i hi => ?_)
  · refine Wk.mk [] rfl rfl rfl ?_ trivial
    repeat (first | exact trivial | refine ⟨⟨_, rfl, by first | exact LeA.c (LeC.refl _ rfl) | exact LeA.c (LeC.ow _ _ rfl) | exact LeA.c (LeC.pt _ _ _ _ _ rfl) | exact LeA.c (LeC.nil _ rfl) | exact LeA.c (LeC.nils _ _) | (refine LeA.int ?_; omega) | (refine LeA.int ?_; dsimp only; omega) | exact LeA.c (LeC.fz rfl rfl (by first | rfl | omega) (fun i _ j _ => ⟨rfl, by first | rfl | exact rowN_imm (fun _ => rfl) _ i j | exact rowF_imm (fun _ => rfl) _ i j⟩))⟩, ?_⟩)
    refine ⟨⟨_, rfl, LeA.c (LeC.fz rfl rfl hl1 (by rw [hL1]; exact row_snoc L ⟨Wb, Hb, nb', db⟩ bmC_imm rfl))⟩, ?_⟩
    refine ⟨⟨_, rfl, LeA.c (LeC.fz rfl rfl hy1 (by rw [hY1]; exact row_snoc Y mt mtC_imm rfl))⟩, ?_⟩
    refine ⟨⟨_, rfl, LeA.ag (leL_imm rfl)⟩, ?_⟩
    repeat (first | exact trivial | refine ⟨⟨_, rfl, by first | exact LeA.c (LeC.refl _ rfl) | exact LeA.c (LeC.ow _ _ rfl) | exact LeA.c (LeC.pt _ _ _ _ _ rfl) | exact LeA.c (LeC.nil _ rfl) | exact LeA.c (LeC.nils _ _) | (refine LeA.int ?_; omega) | (refine LeA.int ?_; dsimp only; omega) | exact LeA.c (LeC.fz rfl rfl (by first | rfl | omega) (fun i _ j _ => ⟨rfl, by first | rfl | exact rowN_imm (fun _ => rfl) _ i j | exact rowF_imm (fun _ => rfl) _ i j⟩))⟩, ?_⟩)
  · by_cases hlt : i < 3
    · have hcl := ar3_cells x ⟨W', H', mm, g⟩ ⟨W, H, min n 150, f⟩ hlt
      have hxn : (ar3I x ⟨W', H', mm, g⟩ ⟨W, H, min n 150, f⟩ i).n ≤ 100000 := by
        have h1 := hx.bds.2
        match i, hlt with
        | 0, _ => show x.n ≤ _; omega
        | 1, _ => show mm ≤ _; omega
        | 2, _ => show min n 150 ≤ _; omega
      generalize ar3I x ⟨W', H', mm, g⟩ ⟨W, H, min n 150, f⟩ i = xi at hcl hxn
      repeat (first
        | refine AWp.seq ?_
        | refine thenA_n ?_
        | refine AWp.block ?_
        | refine AWp.skip ?_
        | refine AWp.condT rfl (by first | rfl | exact cmT) ?_
        | (refine AWp.region (id := 7) ?_
           refine AList.cmpT rfl rfl rfl rfl rfl cmT ?_
           refine AList.nil ?_)
        | (refine AWp.region (id := 8) ?_
           refine AList.index (i := i) tyOk (hcl) rfl rfl rfl rfl rfl rfl rfl rfl (by first | rfl | omega) oM ?_
           refine AList.alloc tyOk rfl rfl rfl rfl rfl ?_
           refine AList.store tyOk rfl rfl rfl rfl rfl rfl rfl rfl oM oM ?_
           refine AList.nil ?_)
        | (refine AWp.region (id := 9) ?_
           refine AList.assign rfl rfl rfl ?_
           refine AList.nil ?_))
      refine AWp.round (fun k : Nat => mkSt 116 ([(11, .c (bC true)), (12, .c (.ls L.length 3 (rowF bmC bmZ L))), (13, .c (.ls Y.length 4 (rowF mtC mtZ Y))), (15, .c (.ls L1.length 3 (rowF bmC bmZ L1))), (16, .c (.ls Y1.length 4 (rowF mtC mtZ Y1))), (61, .ag (ar3L x ⟨W', H', mm, g⟩ ⟨W, H, min n 150, f⟩)), (62, .c (iC i)), (18, .c (.pt 18 3 0 0)), (19, .c (iC k))]) [(18, ⟨false, 1, 3, 27, lF (imC xi)⟩)] [18]) (fun k => k ≤ 4) (fun k => 4 - k) 0 (Nat.zero_le _) ?_ (fun k hk => ?_)
      · refine Wk.mk [(18, some 18)] rfl rfl rfl ?_ ?_
        · repeat (first | exact trivial | refine ⟨⟨_, rfl, by first | exact LeA.c (LeC.refl _ rfl) | exact LeA.c (LeC.ow _ _ rfl) | exact LeA.c (LeC.pt _ _ _ _ _ rfl) | exact LeA.c (LeC.nil _ rfl) | exact LeA.c (LeC.nils _ _) | (refine LeA.int ?_; omega) | (refine LeA.int ?_; dsimp only; omega) | exact LeA.c (LeC.fz rfl rfl (by first | rfl | omega) (fun i _ j _ => ⟨rfl, by first | rfl | exact rowN_imm (fun _ => rfl) _ i j | exact rowF_imm (fun _ => rfl) _ i j⟩))⟩, ?_⟩)
          refine ⟨⟨_, rfl, LeA.ag (leL_imm rfl)⟩, ?_⟩
          repeat (first | exact trivial | refine ⟨⟨_, rfl, by first | exact LeA.c (LeC.refl _ rfl) | exact LeA.c (LeC.ow _ _ rfl) | exact LeA.c (LeC.pt _ _ _ _ _ rfl) | exact LeA.c (LeC.nil _ rfl) | exact LeA.c (LeC.nils _ _) | (refine LeA.int ?_; omega) | (refine LeA.int ?_; dsimp only; omega) | exact LeA.c (LeC.fz rfl rfl (by first | rfl | omega) (fun i _ j _ => ⟨rfl, by first | rfl | exact rowN_imm (fun _ => rfl) _ i j | exact rowF_imm (fun _ => rfl) _ i j⟩))⟩, ?_⟩)
        · repeat (first | exact trivial | refine ⟨by first | exact HeapOk.same rfl rfl rfl rfl | exact HeapOk.lent rfl rfl rfl rfl | exact HeapOk.nil rfl rfl | exact HeapOk.row rfl rfl (by first | rfl | omega) (fun i _ j _ => ⟨rfl, by first | rfl | exact rowN_imm (fun _ => rfl) _ i j | exact rowF_imm (fun _ => rfl) _ i j⟩) | exact HeapOk.box rfl rfl (by repeat (first | exact trivial | refine ⟨by first | exact LeC.refl _ rfl | exact LeC.ow _ _ rfl | exact LeC.nil _ rfl | exact LeC.nils _ _ | exact LeC.fz rfl rfl (by first | rfl | omega) (fun i _ j _ => ⟨rfl, by first | rfl | exact rowN_imm (fun _ => rfl) _ i j | exact rowF_imm (fun _ => rfl) _ i j⟩) | exact LeC.int (by omega), ?_⟩)) rfl, ?_⟩)
      · by_cases hltk : k < 4
        · have hk4 : k = 0 ∨ k = 1 ∨ k = 2 ∨ k = 3 := by omega
          rcases hk4 with h0 | h0 | h0 | h0
          · have hP := pNext_A xi.W xi.H xi.n xi.f L Y (by omega) (by omega)
            have hR := rNext_A xi.W xi.H xi.n xi.f L Y (by omega) (by omega) (by omega)
            generalize nextL xi.W xi.H xi.n xi.f L Y = V at hP hR
            obtain ⟨r, nn, bb⟩ := V
            have hne := rect_neF r
            cases bb
            all_goals
              repeat (first
                | refine AWp.seq ?_
                | refine thenA_n ?_
                | refine AWp.block ?_
                | refine AWp.skip ?_
                | refine inBlk_n ?_
                | refine AWp.condT rfl (by first | rfl | exact cmT) ?_
                | refine AWp.condF rfl (by first | rfl | exact cmF) ?_
                | (refine AWp.region (id := 10) ?_
                   refine AList.move rfl rfl rfl ?_
                   refine AList.cmpT rfl rfl rfl rfl rfl cmT ?_
                   refine AList.nil ?_)
                | (refine AWp.region (id := 11) ?_
                   refine AList.move rfl rfl rfl ?_
                   refine AList.add rfl rfl rfl rfl (by omega) (by omega) ?_
                   refine AList.assign rfl rfl rfl ?_
                   refine AList.nil ?_)
                | (refine AWp.region (id := 12) ?_
                   refine AList.move rfl rfl rfl ?_
                   refine AList.move rfl rfl rfl ?_
                   refine AList.assign rfl rfl rfl ?_
                   refine AList.assign rfl rfl rfl ?_
                   refine AList.nil ?_)
                | (refine AWp.region (id := 13) ?_
                   refine AList.move rfl rfl rfl ?_
                   refine AList.cmpF rfl rfl rfl rfl rfl cmF ?_
                   refine AList.move rfl rfl rfl ?_
                   refine AList.move rfl rfl rfl ?_
                   refine AList.cmpF rfl rfl rfl rfl rfl cmF ?_
                   refine AList.pickF rfl rfl rfl rfl ?_
                   refine AList.nil ?_)
                | (refine AWp.region (id := 15) ?_
                   refine AList.move rfl rfl rfl ?_
                   refine AList.cmpF rfl rfl rfl rfl rfl cmF ?_
                   refine AList.move rfl rfl rfl ?_
                   refine AList.move rfl rfl rfl ?_
                   refine AList.cmpF rfl rfl rfl rfl rfl cmF ?_
                   refine AList.pickF rfl rfl rfl rfl ?_
                   refine AList.nil ?_)
                | (refine AWp.region (id := 17) ?_
                   refine AList.loadA tyOk rfl rfl rfl rfl rfl rfl rfl oM oM ?_
                   refine AList.move rfl rfl rfl ?_
                   refine AList.move rfl rfl rfl ?_
                   refine AList.call rfl rfl rfl rfl Try.func19 rfl (by kernel_rfl) (hP) ?_
                   refine AList.move rfl rfl rfl ?_
                   refine AList.extract rfl rfl rfl rfl ?_
                   refine AList.extract rfl rfl rfl rfl ?_
                   refine AList.extract rfl rfl rfl rfl ?_
                   refine AList.alloc tyOk rfl rfl rfl rfl rfl ?_
                   refine AList.store tyOk rfl rfl rfl rfl rfl rfl rfl rfl oM oM ?_
                   refine AList.assign rfl rfl rfl ?_
                   refine AList.assign rfl rfl rfl ?_
                   refine AList.nil ?_)
                | (refine AWp.region (id := 18) ?_
                   refine AList.loadA tyOk rfl rfl rfl rfl rfl rfl rfl oM oM ?_
                   refine AList.move rfl rfl rfl ?_
                   refine AList.move rfl rfl rfl ?_
                   refine AList.call rfl rfl rfl rfl Try.func20 rfl (by kernel_rfl) (hR) ?_
                   refine AList.move rfl rfl rfl ?_
                   refine AList.extract rfl rfl rfl rfl ?_
                   refine AList.extract rfl rfl rfl rfl ?_
                   refine AList.extract rfl rfl rfl rfl ?_
                   refine AList.alloc tyOk rfl rfl rfl rfl rfl ?_
                   refine AList.store tyOk rfl rfl rfl rfl rfl rfl rfl rfl oM oM ?_
                   refine AList.assign rfl rfl rfl ?_
                   refine AList.assign rfl rfl rfl ?_
                   refine AList.nil ?_)
                | (refine AWp.region (id := 19) ?_
                   refine AList.loadA tyOk rfl rfl rfl rfl rfl rfl rfl oM oM ?_
                   refine AList.loadA tyOk rfl rfl rfl rfl rfl rfl rfl oM oM ?_
                   refine AList.binAg rfl rfl rfl rfl rfl rfl (by kernel_rfl) (hne) ?_
                   refine AList.move rfl rfl rfl ?_
                   refine AList.move rfl rfl rfl ?_
                   refine AList.move rfl rfl rfl ?_
                   refine AList.cmpF rfl rfl rfl rfl rfl (by simp only [cmpP, eq_self, decide_true, Bool.not_true]) ?_
                   refine AList.pickF rfl rfl rfl rfl ?_
                   refine AList.move rfl rfl rfl ?_
                   refine AList.move rfl rfl rfl ?_
                   refine AList.move rfl rfl rfl ?_
                   refine AList.neB rfl rfl rfl rfl (by kernel_rfl) ?_
                   refine AList.pickF rfl rfl rfl rfl ?_
                   refine AList.nil ?_))
              refine ⟨k + 1, by omega, Wk.mk [(18, some 18)] rfl rfl rfl ?_ ?_, by omega⟩
              · repeat (first | exact trivial | refine ⟨⟨_, rfl, by first | exact LeA.c (LeC.refl _ rfl) | exact LeA.c (LeC.ow _ _ rfl) | exact LeA.c (LeC.pt _ _ _ _ _ rfl) | exact LeA.c (LeC.nil _ rfl) | exact LeA.c (LeC.nils _ _) | (refine LeA.int ?_; omega) | (refine LeA.int ?_; dsimp only; omega) | exact LeA.c (LeC.fz rfl rfl (by first | rfl | omega) (fun i _ j _ => ⟨rfl, by first | rfl | exact rowN_imm (fun _ => rfl) _ i j | exact rowF_imm (fun _ => rfl) _ i j⟩))⟩, ?_⟩)
                refine ⟨⟨_, rfl, LeA.ag (leL_imm rfl)⟩, ?_⟩
                repeat (first | exact trivial | refine ⟨⟨_, rfl, by first | exact LeA.c (LeC.refl _ rfl) | exact LeA.c (LeC.ow _ _ rfl) | exact LeA.c (LeC.pt _ _ _ _ _ rfl) | exact LeA.c (LeC.nil _ rfl) | exact LeA.c (LeC.nils _ _) | (refine LeA.int ?_; omega) | (refine LeA.int ?_; dsimp only; omega) | exact LeA.c (LeC.fz rfl rfl (by first | rfl | omega) (fun i _ j _ => ⟨rfl, by first | rfl | exact rowN_imm (fun _ => rfl) _ i j | exact rowF_imm (fun _ => rfl) _ i j⟩))⟩, ?_⟩)
              · repeat (first | exact trivial | refine ⟨by first | exact HeapOk.same rfl rfl rfl rfl | exact HeapOk.lent rfl rfl rfl rfl | exact HeapOk.nil rfl rfl | exact HeapOk.row rfl rfl (by first | rfl | omega) (fun i _ j _ => ⟨rfl, by first | rfl | exact rowN_imm (fun _ => rfl) _ i j | exact rowF_imm (fun _ => rfl) _ i j⟩) | exact HeapOk.box rfl rfl (by repeat (first | exact trivial | refine ⟨by first | exact LeC.refl _ rfl | exact LeC.ow _ _ rfl | exact LeC.nil _ rfl | exact LeC.nils _ _ | exact LeC.fz rfl rfl (by first | rfl | omega) (fun i _ j _ => ⟨rfl, by first | rfl | exact rowN_imm (fun _ => rfl) _ i j | exact rowF_imm (fun _ => rfl) _ i j⟩) | exact LeC.int (by omega), ?_⟩)) rfl, ?_⟩)
          · have hP := pNext_A xi.W xi.H xi.n xi.f L1 Y (by omega) (by omega)
            have hR := rNext_A xi.W xi.H xi.n xi.f L1 Y (by omega) (by omega) (by omega)
            generalize nextL xi.W xi.H xi.n xi.f L1 Y = V at hP hR
            obtain ⟨r, nn, bb⟩ := V
            have hne := rect_neF r
            cases bb
            all_goals
              repeat (first
                | refine AWp.seq ?_
                | refine thenA_n ?_
                | refine AWp.block ?_
                | refine AWp.skip ?_
                | refine inBlk_n ?_
                | refine AWp.condT rfl (by first | rfl | exact cmT) ?_
                | refine AWp.condF rfl (by first | rfl | exact cmF) ?_
                | (refine AWp.region (id := 10) ?_
                   refine AList.move rfl rfl rfl ?_
                   refine AList.cmpT rfl rfl rfl rfl rfl cmT ?_
                   refine AList.nil ?_)
                | (refine AWp.region (id := 11) ?_
                   refine AList.move rfl rfl rfl ?_
                   refine AList.add rfl rfl rfl rfl (by omega) (by omega) ?_
                   refine AList.assign rfl rfl rfl ?_
                   refine AList.nil ?_)
                | (refine AWp.region (id := 12) ?_
                   refine AList.move rfl rfl rfl ?_
                   refine AList.move rfl rfl rfl ?_
                   refine AList.assign rfl rfl rfl ?_
                   refine AList.assign rfl rfl rfl ?_
                   refine AList.nil ?_)
                | (refine AWp.region (id := 13) ?_
                   refine AList.move rfl rfl rfl ?_
                   refine AList.cmpT rfl rfl rfl rfl rfl cmT ?_
                   refine AList.move rfl rfl rfl ?_
                   refine AList.skip rfl rfl ?_
                   refine AList.skip rfl rfl ?_
                   refine AList.pickT rfl rfl rfl rfl ?_
                   refine AList.nil ?_)
                | (refine AWp.region (id := 14) ?_
                   refine AList.move rfl rfl rfl ?_
                   refine AList.assign rfl rfl rfl ?_
                   refine AList.nil ?_)
                | (refine AWp.region (id := 15) ?_
                   refine AList.move rfl rfl rfl ?_
                   refine AList.cmpF rfl rfl rfl rfl rfl cmF ?_
                   refine AList.move rfl rfl rfl ?_
                   refine AList.move rfl rfl rfl ?_
                   refine AList.cmpF rfl rfl rfl rfl rfl cmF ?_
                   refine AList.pickF rfl rfl rfl rfl ?_
                   refine AList.nil ?_)
                | (refine AWp.region (id := 17) ?_
                   refine AList.loadA tyOk rfl rfl rfl rfl rfl rfl rfl oM oM ?_
                   refine AList.move rfl rfl rfl ?_
                   refine AList.move rfl rfl rfl ?_
                   refine AList.call rfl rfl rfl rfl Try.func19 rfl (by kernel_rfl) (hP) ?_
                   refine AList.move rfl rfl rfl ?_
                   refine AList.extract rfl rfl rfl rfl ?_
                   refine AList.extract rfl rfl rfl rfl ?_
                   refine AList.extract rfl rfl rfl rfl ?_
                   refine AList.alloc tyOk rfl rfl rfl rfl rfl ?_
                   refine AList.store tyOk rfl rfl rfl rfl rfl rfl rfl rfl oM oM ?_
                   refine AList.assign rfl rfl rfl ?_
                   refine AList.assign rfl rfl rfl ?_
                   refine AList.nil ?_)
                | (refine AWp.region (id := 18) ?_
                   refine AList.loadA tyOk rfl rfl rfl rfl rfl rfl rfl oM oM ?_
                   refine AList.move rfl rfl rfl ?_
                   refine AList.move rfl rfl rfl ?_
                   refine AList.call rfl rfl rfl rfl Try.func20 rfl (by kernel_rfl) (hR) ?_
                   refine AList.move rfl rfl rfl ?_
                   refine AList.extract rfl rfl rfl rfl ?_
                   refine AList.extract rfl rfl rfl rfl ?_
                   refine AList.extract rfl rfl rfl rfl ?_
                   refine AList.alloc tyOk rfl rfl rfl rfl rfl ?_
                   refine AList.store tyOk rfl rfl rfl rfl rfl rfl rfl rfl oM oM ?_
                   refine AList.assign rfl rfl rfl ?_
                   refine AList.assign rfl rfl rfl ?_
                   refine AList.nil ?_)
                | (refine AWp.region (id := 19) ?_
                   refine AList.loadA tyOk rfl rfl rfl rfl rfl rfl rfl oM oM ?_
                   refine AList.loadA tyOk rfl rfl rfl rfl rfl rfl rfl oM oM ?_
                   refine AList.binAg rfl rfl rfl rfl rfl rfl (by kernel_rfl) (hne) ?_
                   refine AList.move rfl rfl rfl ?_
                   refine AList.move rfl rfl rfl ?_
                   refine AList.move rfl rfl rfl ?_
                   refine AList.cmpF rfl rfl rfl rfl rfl (by simp only [cmpP, eq_self, decide_true, Bool.not_true]) ?_
                   refine AList.pickF rfl rfl rfl rfl ?_
                   refine AList.move rfl rfl rfl ?_
                   refine AList.move rfl rfl rfl ?_
                   refine AList.move rfl rfl rfl ?_
                   refine AList.neB rfl rfl rfl rfl (by kernel_rfl) ?_
                   refine AList.pickF rfl rfl rfl rfl ?_
                   refine AList.nil ?_))
              refine ⟨k + 1, by omega, Wk.mk [(18, some 18)] rfl rfl rfl ?_ ?_, by omega⟩
              · repeat (first | exact trivial | refine ⟨⟨_, rfl, by first | exact LeA.c (LeC.refl _ rfl) | exact LeA.c (LeC.ow _ _ rfl) | exact LeA.c (LeC.pt _ _ _ _ _ rfl) | exact LeA.c (LeC.nil _ rfl) | exact LeA.c (LeC.nils _ _) | (refine LeA.int ?_; omega) | (refine LeA.int ?_; dsimp only; omega) | exact LeA.c (LeC.fz rfl rfl (by first | rfl | omega) (fun i _ j _ => ⟨rfl, by first | rfl | exact rowN_imm (fun _ => rfl) _ i j | exact rowF_imm (fun _ => rfl) _ i j⟩))⟩, ?_⟩)
                refine ⟨⟨_, rfl, LeA.ag (leL_imm rfl)⟩, ?_⟩
                repeat (first | exact trivial | refine ⟨⟨_, rfl, by first | exact LeA.c (LeC.refl _ rfl) | exact LeA.c (LeC.ow _ _ rfl) | exact LeA.c (LeC.pt _ _ _ _ _ rfl) | exact LeA.c (LeC.nil _ rfl) | exact LeA.c (LeC.nils _ _) | (refine LeA.int ?_; omega) | (refine LeA.int ?_; dsimp only; omega) | exact LeA.c (LeC.fz rfl rfl (by first | rfl | omega) (fun i _ j _ => ⟨rfl, by first | rfl | exact rowN_imm (fun _ => rfl) _ i j | exact rowF_imm (fun _ => rfl) _ i j⟩))⟩, ?_⟩)
              · repeat (first | exact trivial | refine ⟨by first | exact HeapOk.same rfl rfl rfl rfl | exact HeapOk.lent rfl rfl rfl rfl | exact HeapOk.nil rfl rfl | exact HeapOk.row rfl rfl (by first | rfl | omega) (fun i _ j _ => ⟨rfl, by first | rfl | exact rowN_imm (fun _ => rfl) _ i j | exact rowF_imm (fun _ => rfl) _ i j⟩) | exact HeapOk.box rfl rfl (by repeat (first | exact trivial | refine ⟨by first | exact LeC.refl _ rfl | exact LeC.ow _ _ rfl | exact LeC.nil _ rfl | exact LeC.nils _ _ | exact LeC.fz rfl rfl (by first | rfl | omega) (fun i _ j _ => ⟨rfl, by first | rfl | exact rowN_imm (fun _ => rfl) _ i j | exact rowF_imm (fun _ => rfl) _ i j⟩) | exact LeC.int (by omega), ?_⟩)) rfl, ?_⟩)
          · have hP := pNext_A xi.W xi.H xi.n xi.f L Y1 (by omega) (by omega)
            have hR := rNext_A xi.W xi.H xi.n xi.f L Y1 (by omega) (by omega) (by omega)
            generalize nextL xi.W xi.H xi.n xi.f L Y1 = V at hP hR
            obtain ⟨r, nn, bb⟩ := V
            have hne := rect_neF r
            cases bb
            all_goals
              repeat (first
                | refine AWp.seq ?_
                | refine thenA_n ?_
                | refine AWp.block ?_
                | refine AWp.skip ?_
                | refine inBlk_n ?_
                | refine AWp.condT rfl (by first | rfl | exact cmT) ?_
                | refine AWp.condF rfl (by first | rfl | exact cmF) ?_
                | (refine AWp.region (id := 10) ?_
                   refine AList.move rfl rfl rfl ?_
                   refine AList.cmpT rfl rfl rfl rfl rfl cmT ?_
                   refine AList.nil ?_)
                | (refine AWp.region (id := 11) ?_
                   refine AList.move rfl rfl rfl ?_
                   refine AList.add rfl rfl rfl rfl (by omega) (by omega) ?_
                   refine AList.assign rfl rfl rfl ?_
                   refine AList.nil ?_)
                | (refine AWp.region (id := 12) ?_
                   refine AList.move rfl rfl rfl ?_
                   refine AList.move rfl rfl rfl ?_
                   refine AList.assign rfl rfl rfl ?_
                   refine AList.assign rfl rfl rfl ?_
                   refine AList.nil ?_)
                | (refine AWp.region (id := 13) ?_
                   refine AList.move rfl rfl rfl ?_
                   refine AList.cmpF rfl rfl rfl rfl rfl cmF ?_
                   refine AList.move rfl rfl rfl ?_
                   refine AList.move rfl rfl rfl ?_
                   refine AList.cmpF rfl rfl rfl rfl rfl cmF ?_
                   refine AList.pickF rfl rfl rfl rfl ?_
                   refine AList.nil ?_)
                | (refine AWp.region (id := 15) ?_
                   refine AList.move rfl rfl rfl ?_
                   refine AList.cmpT rfl rfl rfl rfl rfl cmT ?_
                   refine AList.move rfl rfl rfl ?_
                   refine AList.skip rfl rfl ?_
                   refine AList.skip rfl rfl ?_
                   refine AList.pickT rfl rfl rfl rfl ?_
                   refine AList.nil ?_)
                | (refine AWp.region (id := 16) ?_
                   refine AList.move rfl rfl rfl ?_
                   refine AList.assign rfl rfl rfl ?_
                   refine AList.nil ?_)
                | (refine AWp.region (id := 17) ?_
                   refine AList.loadA tyOk rfl rfl rfl rfl rfl rfl rfl oM oM ?_
                   refine AList.move rfl rfl rfl ?_
                   refine AList.move rfl rfl rfl ?_
                   refine AList.call rfl rfl rfl rfl Try.func19 rfl (by kernel_rfl) (hP) ?_
                   refine AList.move rfl rfl rfl ?_
                   refine AList.extract rfl rfl rfl rfl ?_
                   refine AList.extract rfl rfl rfl rfl ?_
                   refine AList.extract rfl rfl rfl rfl ?_
                   refine AList.alloc tyOk rfl rfl rfl rfl rfl ?_
                   refine AList.store tyOk rfl rfl rfl rfl rfl rfl rfl rfl oM oM ?_
                   refine AList.assign rfl rfl rfl ?_
                   refine AList.assign rfl rfl rfl ?_
                   refine AList.nil ?_)
                | (refine AWp.region (id := 18) ?_
                   refine AList.loadA tyOk rfl rfl rfl rfl rfl rfl rfl oM oM ?_
                   refine AList.move rfl rfl rfl ?_
                   refine AList.move rfl rfl rfl ?_
                   refine AList.call rfl rfl rfl rfl Try.func20 rfl (by kernel_rfl) (hR) ?_
                   refine AList.move rfl rfl rfl ?_
                   refine AList.extract rfl rfl rfl rfl ?_
                   refine AList.extract rfl rfl rfl rfl ?_
                   refine AList.extract rfl rfl rfl rfl ?_
                   refine AList.alloc tyOk rfl rfl rfl rfl rfl ?_
                   refine AList.store tyOk rfl rfl rfl rfl rfl rfl rfl rfl oM oM ?_
                   refine AList.assign rfl rfl rfl ?_
                   refine AList.assign rfl rfl rfl ?_
                   refine AList.nil ?_)
                | (refine AWp.region (id := 19) ?_
                   refine AList.loadA tyOk rfl rfl rfl rfl rfl rfl rfl oM oM ?_
                   refine AList.loadA tyOk rfl rfl rfl rfl rfl rfl rfl oM oM ?_
                   refine AList.binAg rfl rfl rfl rfl rfl rfl (by kernel_rfl) (hne) ?_
                   refine AList.move rfl rfl rfl ?_
                   refine AList.move rfl rfl rfl ?_
                   refine AList.move rfl rfl rfl ?_
                   refine AList.cmpF rfl rfl rfl rfl rfl (by simp only [cmpP, eq_self, decide_true, Bool.not_true]) ?_
                   refine AList.pickF rfl rfl rfl rfl ?_
                   refine AList.move rfl rfl rfl ?_
                   refine AList.move rfl rfl rfl ?_
                   refine AList.move rfl rfl rfl ?_
                   refine AList.neB rfl rfl rfl rfl (by kernel_rfl) ?_
                   refine AList.pickF rfl rfl rfl rfl ?_
                   refine AList.nil ?_))
              refine ⟨k + 1, by omega, Wk.mk [(18, some 18)] rfl rfl rfl ?_ ?_, by omega⟩
              · repeat (first | exact trivial | refine ⟨⟨_, rfl, by first | exact LeA.c (LeC.refl _ rfl) | exact LeA.c (LeC.ow _ _ rfl) | exact LeA.c (LeC.pt _ _ _ _ _ rfl) | exact LeA.c (LeC.nil _ rfl) | exact LeA.c (LeC.nils _ _) | (refine LeA.int ?_; omega) | (refine LeA.int ?_; dsimp only; omega) | exact LeA.c (LeC.fz rfl rfl (by first | rfl | omega) (fun i _ j _ => ⟨rfl, by first | rfl | exact rowN_imm (fun _ => rfl) _ i j | exact rowF_imm (fun _ => rfl) _ i j⟩))⟩, ?_⟩)
                refine ⟨⟨_, rfl, LeA.ag (leL_imm rfl)⟩, ?_⟩
                repeat (first | exact trivial | refine ⟨⟨_, rfl, by first | exact LeA.c (LeC.refl _ rfl) | exact LeA.c (LeC.ow _ _ rfl) | exact LeA.c (LeC.pt _ _ _ _ _ rfl) | exact LeA.c (LeC.nil _ rfl) | exact LeA.c (LeC.nils _ _) | (refine LeA.int ?_; omega) | (refine LeA.int ?_; dsimp only; omega) | exact LeA.c (LeC.fz rfl rfl (by first | rfl | omega) (fun i _ j _ => ⟨rfl, by first | rfl | exact rowN_imm (fun _ => rfl) _ i j | exact rowF_imm (fun _ => rfl) _ i j⟩))⟩, ?_⟩)
              · repeat (first | exact trivial | refine ⟨by first | exact HeapOk.same rfl rfl rfl rfl | exact HeapOk.lent rfl rfl rfl rfl | exact HeapOk.nil rfl rfl | exact HeapOk.row rfl rfl (by first | rfl | omega) (fun i _ j _ => ⟨rfl, by first | rfl | exact rowN_imm (fun _ => rfl) _ i j | exact rowF_imm (fun _ => rfl) _ i j⟩) | exact HeapOk.box rfl rfl (by repeat (first | exact trivial | refine ⟨by first | exact LeC.refl _ rfl | exact LeC.ow _ _ rfl | exact LeC.nil _ rfl | exact LeC.nils _ _ | exact LeC.fz rfl rfl (by first | rfl | omega) (fun i _ j _ => ⟨rfl, by first | rfl | exact rowN_imm (fun _ => rfl) _ i j | exact rowF_imm (fun _ => rfl) _ i j⟩) | exact LeC.int (by omega), ?_⟩)) rfl, ?_⟩)
          · have hP := pNext_A xi.W xi.H xi.n xi.f L1 Y1 (by omega) (by omega)
            have hR := rNext_A xi.W xi.H xi.n xi.f L1 Y1 (by omega) (by omega) (by omega)
            generalize nextL xi.W xi.H xi.n xi.f L1 Y1 = V at hP hR
            obtain ⟨r, nn, bb⟩ := V
            have hne := rect_neF r
            cases bb
            all_goals
              repeat (first
                | refine AWp.seq ?_
                | refine thenA_n ?_
                | refine AWp.block ?_
                | refine AWp.skip ?_
                | refine inBlk_n ?_
                | refine AWp.condT rfl (by first | rfl | exact cmT) ?_
                | refine AWp.condF rfl (by first | rfl | exact cmF) ?_
                | (refine AWp.region (id := 10) ?_
                   refine AList.move rfl rfl rfl ?_
                   refine AList.cmpT rfl rfl rfl rfl rfl cmT ?_
                   refine AList.nil ?_)
                | (refine AWp.region (id := 11) ?_
                   refine AList.move rfl rfl rfl ?_
                   refine AList.add rfl rfl rfl rfl (by omega) (by omega) ?_
                   refine AList.assign rfl rfl rfl ?_
                   refine AList.nil ?_)
                | (refine AWp.region (id := 12) ?_
                   refine AList.move rfl rfl rfl ?_
                   refine AList.move rfl rfl rfl ?_
                   refine AList.assign rfl rfl rfl ?_
                   refine AList.assign rfl rfl rfl ?_
                   refine AList.nil ?_)
                | (refine AWp.region (id := 13) ?_
                   refine AList.move rfl rfl rfl ?_
                   refine AList.cmpF rfl rfl rfl rfl rfl cmF ?_
                   refine AList.move rfl rfl rfl ?_
                   refine AList.move rfl rfl rfl ?_
                   refine AList.cmpT rfl rfl rfl rfl rfl cmT ?_
                   refine AList.pickF rfl rfl rfl rfl ?_
                   refine AList.nil ?_)
                | (refine AWp.region (id := 14) ?_
                   refine AList.move rfl rfl rfl ?_
                   refine AList.assign rfl rfl rfl ?_
                   refine AList.nil ?_)
                | (refine AWp.region (id := 15) ?_
                   refine AList.move rfl rfl rfl ?_
                   refine AList.cmpF rfl rfl rfl rfl rfl cmF ?_
                   refine AList.move rfl rfl rfl ?_
                   refine AList.move rfl rfl rfl ?_
                   refine AList.cmpT rfl rfl rfl rfl rfl cmT ?_
                   refine AList.pickF rfl rfl rfl rfl ?_
                   refine AList.nil ?_)
                | (refine AWp.region (id := 16) ?_
                   refine AList.move rfl rfl rfl ?_
                   refine AList.assign rfl rfl rfl ?_
                   refine AList.nil ?_)
                | (refine AWp.region (id := 17) ?_
                   refine AList.loadA tyOk rfl rfl rfl rfl rfl rfl rfl oM oM ?_
                   refine AList.move rfl rfl rfl ?_
                   refine AList.move rfl rfl rfl ?_
                   refine AList.call rfl rfl rfl rfl Try.func19 rfl (by kernel_rfl) (hP) ?_
                   refine AList.move rfl rfl rfl ?_
                   refine AList.extract rfl rfl rfl rfl ?_
                   refine AList.extract rfl rfl rfl rfl ?_
                   refine AList.extract rfl rfl rfl rfl ?_
                   refine AList.alloc tyOk rfl rfl rfl rfl rfl ?_
                   refine AList.store tyOk rfl rfl rfl rfl rfl rfl rfl rfl oM oM ?_
                   refine AList.assign rfl rfl rfl ?_
                   refine AList.assign rfl rfl rfl ?_
                   refine AList.nil ?_)
                | (refine AWp.region (id := 18) ?_
                   refine AList.loadA tyOk rfl rfl rfl rfl rfl rfl rfl oM oM ?_
                   refine AList.move rfl rfl rfl ?_
                   refine AList.move rfl rfl rfl ?_
                   refine AList.call rfl rfl rfl rfl Try.func20 rfl (by kernel_rfl) (hR) ?_
                   refine AList.move rfl rfl rfl ?_
                   refine AList.extract rfl rfl rfl rfl ?_
                   refine AList.extract rfl rfl rfl rfl ?_
                   refine AList.extract rfl rfl rfl rfl ?_
                   refine AList.alloc tyOk rfl rfl rfl rfl rfl ?_
                   refine AList.store tyOk rfl rfl rfl rfl rfl rfl rfl rfl oM oM ?_
                   refine AList.assign rfl rfl rfl ?_
                   refine AList.assign rfl rfl rfl ?_
                   refine AList.nil ?_)
                | (refine AWp.region (id := 19) ?_
                   refine AList.loadA tyOk rfl rfl rfl rfl rfl rfl rfl oM oM ?_
                   refine AList.loadA tyOk rfl rfl rfl rfl rfl rfl rfl oM oM ?_
                   refine AList.binAg rfl rfl rfl rfl rfl rfl (by kernel_rfl) (hne) ?_
                   refine AList.move rfl rfl rfl ?_
                   refine AList.move rfl rfl rfl ?_
                   refine AList.move rfl rfl rfl ?_
                   refine AList.cmpF rfl rfl rfl rfl rfl (by simp only [cmpP, eq_self, decide_true, Bool.not_true]) ?_
                   refine AList.pickF rfl rfl rfl rfl ?_
                   refine AList.move rfl rfl rfl ?_
                   refine AList.move rfl rfl rfl ?_
                   refine AList.move rfl rfl rfl ?_
                   refine AList.neB rfl rfl rfl rfl (by kernel_rfl) ?_
                   refine AList.pickF rfl rfl rfl rfl ?_
                   refine AList.nil ?_))
              refine ⟨k + 1, by omega, Wk.mk [(18, some 18)] rfl rfl rfl ?_ ?_, by omega⟩
              · repeat (first | exact trivial | refine ⟨⟨_, rfl, by first | exact LeA.c (LeC.refl _ rfl) | exact LeA.c (LeC.ow _ _ rfl) | exact LeA.c (LeC.pt _ _ _ _ _ rfl) | exact LeA.c (LeC.nil _ rfl) | exact LeA.c (LeC.nils _ _) | (refine LeA.int ?_; omega) | (refine LeA.int ?_; dsimp only; omega) | exact LeA.c (LeC.fz rfl rfl (by first | rfl | omega) (fun i _ j _ => ⟨rfl, by first | rfl | exact rowN_imm (fun _ => rfl) _ i j | exact rowF_imm (fun _ => rfl) _ i j⟩))⟩, ?_⟩)
                refine ⟨⟨_, rfl, LeA.ag (leL_imm rfl)⟩, ?_⟩
                repeat (first | exact trivial | refine ⟨⟨_, rfl, by first | exact LeA.c (LeC.refl _ rfl) | exact LeA.c (LeC.ow _ _ rfl) | exact LeA.c (LeC.pt _ _ _ _ _ rfl) | exact LeA.c (LeC.nil _ rfl) | exact LeA.c (LeC.nils _ _) | (refine LeA.int ?_; omega) | (refine LeA.int ?_; dsimp only; omega) | exact LeA.c (LeC.fz rfl rfl (by first | rfl | omega) (fun i _ j _ => ⟨rfl, by first | rfl | exact rowN_imm (fun _ => rfl) _ i j | exact rowF_imm (fun _ => rfl) _ i j⟩))⟩, ?_⟩)
              · repeat (first | exact trivial | refine ⟨by first | exact HeapOk.same rfl rfl rfl rfl | exact HeapOk.lent rfl rfl rfl rfl | exact HeapOk.nil rfl rfl | exact HeapOk.row rfl rfl (by first | rfl | omega) (fun i _ j _ => ⟨rfl, by first | rfl | exact rowN_imm (fun _ => rfl) _ i j | exact rowF_imm (fun _ => rfl) _ i j⟩) | exact HeapOk.box rfl rfl (by repeat (first | exact trivial | refine ⟨by first | exact LeC.refl _ rfl | exact LeC.ow _ _ rfl | exact LeC.nil _ rfl | exact LeC.nils _ _ | exact LeC.fz rfl rfl (by first | rfl | omega) (fun i _ j _ => ⟨rfl, by first | rfl | exact rowN_imm (fun _ => rfl) _ i j | exact rowF_imm (fun _ => rfl) _ i j⟩) | exact LeC.int (by omega), ?_⟩)) rfl, ?_⟩)
        · obtain rfl : k = 4 := by omega
          repeat (first
            | refine AWp.seq ?_
            | refine thenA_n ?_
            | refine AWp.exit ?_
            | refine thenA_e ?_
            | refine inBlk_n ?_
            | refine inBlk_hit ?_
            | refine AWp.condF rfl (by first | rfl | exact cmF) ?_
            | (refine AWp.region (id := 10) ?_
               refine AList.move rfl rfl rfl ?_
               refine AList.cmpF rfl rfl rfl rfl rfl cmF ?_
               refine AList.nil ?_)
            | (refine AWp.region (id := 21) ?_
               refine AList.add rfl rfl rfl rfl (by omega) (by omega) ?_
               refine AList.move rfl rfl rfl ?_
               refine AList.nil ?_))
          refine ⟨i + 1, by omega, Wk.mk [] rfl rfl rfl ?_ trivial, by omega⟩
          repeat (first | exact trivial | refine ⟨⟨_, rfl, by first | exact LeA.c (LeC.refl _ rfl) | exact LeA.c (LeC.ow _ _ rfl) | exact LeA.c (LeC.pt _ _ _ _ _ rfl) | exact LeA.c (LeC.nil _ rfl) | exact LeA.c (LeC.nils _ _) | (refine LeA.int ?_; omega) | (refine LeA.int ?_; dsimp only; omega) | exact LeA.c (LeC.fz rfl rfl (by first | rfl | omega) (fun i _ j _ => ⟨rfl, by first | rfl | exact rowN_imm (fun _ => rfl) _ i j | exact rowF_imm (fun _ => rfl) _ i j⟩))⟩, ?_⟩)
          refine ⟨⟨_, rfl, LeA.ag (leL_imm rfl)⟩, ?_⟩
          repeat (first | exact trivial | refine ⟨⟨_, rfl, by first | exact LeA.c (LeC.refl _ rfl) | exact LeA.c (LeC.ow _ _ rfl) | exact LeA.c (LeC.pt _ _ _ _ _ rfl) | exact LeA.c (LeC.nil _ rfl) | exact LeA.c (LeC.nils _ _) | (refine LeA.int ?_; omega) | (refine LeA.int ?_; dsimp only; omega) | exact LeA.c (LeC.fz rfl rfl (by first | rfl | omega) (fun i _ j _ => ⟨rfl, by first | rfl | exact rowN_imm (fun _ => rfl) _ i j | exact rowF_imm (fun _ => rfl) _ i j⟩))⟩, ?_⟩)
    · obtain rfl : i = 3 := by omega
      repeat (first
        | refine AWp.seq ?_
        | refine thenA_n ?_
        | refine AWp.exit ?_
        | refine AWp.ret ?_
        | refine AWp.condF rfl (by first | rfl | exact cmF) ?_
        | (refine AWp.region (id := 7) ?_
           refine AList.cmpF rfl rfl rfl rfl rfl cmF ?_
           refine AList.nil ?_)
        | (refine AWp.region (id := 22) ?_
           refine AList.move rfl rfl rfl ?_
           refine AList.assign rfl rfl rfl ?_
           refine AList.nil ?_))
      refine ⟨_, rfl, mkSt 116 [(10, .c (bC true))] [] [], [], Wk.mk [] rfl rfl rfl ?_ trivial, rfl, rfl, ARets.one (x := .c _) (ARes.tmp rfl rfl)⟩
      repeat (first | exact trivial | refine ⟨⟨_, rfl, by first | exact LeA.c (LeC.refl _ rfl) | exact LeA.c (LeC.ow _ _ rfl) | exact LeA.c (LeC.pt _ _ _ _ _ rfl) | exact LeA.c (LeC.nil _ rfl) | exact LeA.c (LeC.nils _ _) | (refine LeA.int ?_; omega) | (refine LeA.int ?_; dsimp only; omega) | exact LeA.c (LeC.fz rfl rfl (by first | rfl | omega) (fun i _ j _ => ⟨rfl, by first | rfl | exact rowN_imm (fun _ => rfl) _ i j | exact rowF_imm (fun _ => rfl) _ i j⟩))⟩, ?_⟩)
end Go.Proofs.Ytcdnpnbjloaihaa
end

section
/- ProbeNext: the statement. No condition. -/
namespace Go.Proofs.Ytcdnpnbjloaihaa.probeNext
open Go.ChangeShapes Go.WideShapes Go.ChangeAt Go.RowKit Go.Flow Go.AV
theorem contract (H : Type) (enc : TypeId × Value → H) (W : World) (base : Nat) (args : Array Value) (ds gs : List (DataW H)) (before : List MemPlace)
    (hval : ∀ (j : Nat) t v, Try.f4.params[j]? = some t → args[j]? = some v → Value.okWide Try.prog W .any base t v)
    (hW : DataW.Whole enc Try.prog Try.f4.params.toList Rows.probeNextSpec.vars false W args.toList ds gs before)
    (hsz : (DataW.weightsEach Try.prog (Try.f4.params.toList ++ (OpenSpec.ofChange Rows.probeNextSpec).bare.plain.varTypes Try.prog) (ds ++ gs)).all (· ≤ reachBytes) = true) :
    Calls Try.prog 4 args W fun e W' => ∃ v, e = .returned v ∧ Rows.probeNextSpec.post enc Try.prog Try.f4 false true false false W args v W' := by
  have hW' := hW
  obtain ⟨p, q, hA0, hV, rfl, hfz, hnd⟩ := hW
  have hA : DataW.TrodAll enc Try.prog W 0 (fun _ => true) true Try.f4.params.toList args.toList ds p := hA0
  have hAk := hA0
  rw [Try.params4] at hA hval hsz
  obtain ⟨rfl, rfl⟩ := trodVars_none hV
  obtain ⟨v0, vs0, d0, ds0, p0, q0, hargs, rfl, rfl, h0, t0⟩ := trodAll_cons hA
  obtain ⟨v1, vs1, d1, ds1, p1, q1, rfl, rfl, rfl, h1, t1⟩ := trodAll_cons t0
  obtain ⟨v2, vs2, d2, ds2, p2, q2, rfl, rfl, rfl, h2, t2⟩ := trodAll_cons t1
  obtain ⟨v3, vs3, d3, ds3, p3, q3, rfl, rfl, rfl, h3, t3⟩ := trodAll_cons t2
  obtain ⟨v4, vs4, d4, ds4, p4, q4, rfl, rfl, rfl, h4, t4⟩ := trodAll_cons t3
  obtain ⟨rfl, rfl, rfl⟩ := trodAll_nil t4
  obtain rfl : args = #[v0, v1, v2, v3, v4] := by rw [← Array.toList_inj]; exact hargs
  have hlt := fun x hx => hW'.lt x hx
  simp only [List.append_nil] at hW'
  rw [List.append_nil] at hsz
  obtain ⟨a0, ok0, r0⟩ := opn_case.argS Try.underlying25 (hval 0 25 v0 rfl rfl) h0 (weigh hsz 0 (t := 25) (d := d0) rfl rfl)
  obtain ⟨a1, ok1, r1⟩ := opn_img.argS Try.underlying27 (hval 1 27 v1 rfl rfl) h1 (weigh hsz 1 (t := 27) (d := d1) rfl rfl)
  obtain ⟨a2, ok2, r2⟩ := opn_bmp.argS Try.underlying48 (hval 2 48 v2 rfl rfl) h2 (weigh hsz 2 (t := 48) (d := d2) rfl rfl)
  obtain ⟨a3, ok3, r3⟩ := opn_mt.argS Try.underlying50 (hval 3 50 v3 rfl rfl) h3 (weigh hsz 3 (t := 50) (d := d3) rfl rfl)
  obtain ⟨a4, ok4, r4⟩ := opn_int.argC (cells_int Try.underlying3 (hval 4 3 v4 rfl rfl)) h4 (weigh hsz 4 (t := 3) (d := d4) rfl rfl)
  refine ((ProbeNext_A a0 a1.W a1.H a1.n a1.f a2.W a2.H a2.n a2.d a3 a4 ok0 ok1 ok2 ok4) O0 W [_, _, _, _, _] (fun b h => h.elim) ⟨r0, r1, r2, r3, r4, trivial⟩).mono fun e W' ⟨v, r, he, hr, hv, hE⟩ => ?_
  subst hr
  obtain rfl : v = .bool true := hv.2
  subst he
  exact ⟨_, rfl, post_below (pv := []) hW' (fun _ _ _ => trodAll_cons_mk (shut_bool Try.underlying4 _) trodAll_mk0)
    (fun sp hsp => trodAll_below laidOut hE (by rw [Try.params4]; intro t ht; simp only [List.mem_cons, List.not_mem_nil, or_false] at ht; rcases ht with rfl | rfl | rfl | rfl | rfl <;> exact ⟨by kernel_rfl, of_decide_eq_true (by kernel_rfl)⟩) hAk (fun x hx => hlt x (by rw [List.append_nil]; exact hx)) sp (fun x hx => hsp x (by simpa only [List.append_nil] using hx)))
    (fun _ _ => rfl) (by simp) hE (ok_one (by kernel_rfl) rfl (okWide_bool_mk Try.underlying4 _))⟩
theorem own : ownKnob Try.prog.godebug = none := by kernel_rfl
set_option maxRecDepth 100000 in
theorem lifted (os : Os) (started : os.Started) (H : Type) (enc : TypeId × Value → H) :
    ReturnsInHanded {} Try.checked os 4 .any (Rows.probeNextSpec.pre6 enc Try.prog Try.f4 Rows.probeNextRow.domain false) (Rows.probeNextSpec.post enc Try.prog Try.f4 false true false false) := by
  refine returnsInHanded_of_change_sized (C := Try.checked) own started (by kernel_rfl) Try.func4
    (ChangeSpec.witness6 (enc := enc) (C := Try.checked) false ⟨#[], #[.agg #[.slice none 0 0, .slice none 0 0, .int .i64 0, .int .i64 0, .slice none 0 0], .agg #[.int .i64 0, .int .i64 0, .slice none 0 0], .agg #[.int .i64 0, .int .i64 0, .slice none 0 0], .agg #[.int .i64 0, .int .i64 0, .int .i64 0, .int .i64 0], .int .i64 0], []⟩ 8 (by kernel_rfl) (by kernel_rfl) (by kernel_rfl) (by kernel_rfl)) ?_
  intro W base args ds gs before hval hW _ hsz _
  exact contract H enc W base args ds gs before hval hW hsz
theorem said : Rows.ProbeNextSaid :=
  OpenClaim.holds_of_wide 4 Try.f4 rfl rfl rfl rfl rfl rfl rfl ⟨rfl, rfl, rfl, rfl, rfl⟩ rfl rfl rfl rfl rfl (by kernel_rfl) Try.func4 (by kernel_rfl)
    (of_decide_eq_true (by kernel_rfl)) (by unfold Func.isWrapper; first | (rw [if_pos (by decide +kernel)]; kernel_rfl) | (rw [if_neg (by decide +kernel)]; exact ⟨rfl, rfl⟩))
    (fun os started H enc _ => lifted os started H enc)
end Go.Proofs.Ytcdnpnbjloaihaa.probeNext
end
