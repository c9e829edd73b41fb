/- ProbeDivides: the statement. No condition. -/
import Derived.Test.YtcdnpnbjloaihaaProg
import Derived.Test.YtcdnpnbjloaihaaG21
import Derived.Test.YtcdnpnbjloaihaaG11
import Derived.Test.YtcdnpnbjloaihaaHA33dvr01
import Derived.Test.YtcdnpnbjloaihaaRows
import Derived.Test.YtcdnpnbjloaihaaG36
set_option linter.unusedSimpArgs false
set_option linter.unusedVariables false
section
/- image.Fits of an image and a bitmap of one size. No condition but those that each states. -/
namespace Go.Proofs.Ytcdnpnbjloaihaa
open Go.RowKit Go.Flow Go.Plain
open Go.Proofs
attribute [local go_sem] block_add
attribute [local go_sem ↓] Go.wp_at_zero Go.wp_at_succ

set_option maxHeartbeats 1000000 in
set_option maxRecDepth 100000 in
theorem Fits_ok (W H : Int) (A : Option Addr) (n c : Nat) (f : Nat → Int) (W' H' : Int) (B : Option Addr) (m d : Nat) (dot : Nat → Bool) (dx dy : Int) (w : World) (hA : Ints w A n f) (hB : Bools w B m dot) (hok : chkI W H n f = 0) (hp : putE W' H' m dx dy = 0) (hw : W = W' + 4) (hh : H = H' + 4) :
    Calls Try.prog 41 #[img W H A n c, bmp W' H' B m d, .int .i64 dx, .int .i64 dy] w fun e w' => e = .returned (.tuple #[.int .i64 (cnt (bothB 0 1 f (putF W' H' dot dx dy)) n), .int .i64 (cnt (bothB 1 0 f (putF W' H' dot dx dy)) n), .bool true]) ∧ Ext w w' := by
  have hsh := (chkI_ok.1 hok).1
  have hn := hsh.2.2.2.2
  have hnb : n ≤ 10000 := by
    have h1 := areaI ⟨hsh.1, hsh.2.1⟩ ⟨hsh.2.2.1, hsh.2.2.2.1⟩
    omega
  have hne : (chkI W H n f != 0) = false := by simpa using hok
  have d1 : (W != W' + 4) = false := by simpa using hw
  have d2 : (H != H' + 4) = false := by simpa using hh
  have hE0 := Lib.hid (((Ext.refl w).alloc (.cells #[.int .i64 W, .int .i64 H, .slice A n c] 27)).alloc (.cells #[.int .i64 W', .int .i64 H', .slice B m d] 48))
  have hX0 := Lib.hid ((Blk.new w 27 #[.int .i64 W, .int .i64 H, .slice A n c]).alloc (.cells #[.int .i64 W', .int .i64 H', .slice B m d] 48))
  replace hok := Lib.hid hok
  replace hp := Lib.hid hp
  replace hw := Lib.hid hw
  replace hh := Lib.hid hh
  replace hn := Lib.hid hn
  clear hsh
  go_enter Try.func41, Try.ntmps41
  go_wp2_with fail
  refine (IPut_any W' H' B m d dot dx dy _ (hB.ext hE0.out)).mono ?_
  rintro e w1 (⟨h0, -⟩ | ⟨-, C, cC, k, rfl, ⟨-, hk⟩, hM, hE1⟩)
  · exact absurd hp.out h0
  have hkn : k = n := by
    have h1 := hn.out
    rw [hw.out, hh.out, ← hk] at h1
    omega
  subst hkn
  have hX1 := hX0.out.ext hE1
  have hE1' := hE0.out.trans hE1
  have hws := hX1.lt
  obtain ⟨xc, xf, xl⟩ := hX1.rules
  replace hX1 := Lib.hid hX1
  have hM2 := Lib.hid (hM.arr)
  clear hM hE1 hk
  replace hE1' := Lib.hid hE1'
  have hT1 := Lib.hid (Blk.new w1 27 #[.int .i64 (W' + 4), .int .i64 (H' + 4), .slice C k cC])
  go_wp2_with fail
  refine (ICheck_any W H A k c f _ (by omega) (hA.ext (hE1'.out.alloc _))).mono ?_
  rintro e w2 ⟨rfl, hE2⟩
  have hX2 := (hX1.out.alloc _).ext hE2
  have hT2 := hT1.out.ext hE2
  have hA2 := Lib.hid (hA.ext ((hE1'.out.alloc _).trans hE2))
  have hM3 := Lib.hid ((hM2.out.ext ((Ext.refl _).alloc _)).ext hE2)
  have hE3 := Lib.hid ((hE1'.out.alloc _).trans hE2)
  clear xc xf xl
  obtain ⟨xc, xf, xl⟩ := hX2.rules
  obtain ⟨tc, tf, tl⟩ := hT2.rules
  replace hT2 := Lib.hid hT2
  clear hE2 hX2 hT1 hX1 hM2
  go_wp2_with fail
  refine (countFits1_any A k c k w1.heap.size cC (W' + 4) (H' + 4) C f (putF W' H' dot dx dy) w2 (by omega) (by omega) (by omega) hA2.out hT2.out hM3.out).mono ?_
  rintro e w3 ⟨rfl, rfl⟩
  go_wp2_with fail
  refine (countFits2_any A k c k w1.heap.size cC (W' + 4) (H' + 4) C f (putF W' H' dot dx dy) w2 (by omega) (by omega) (by omega) hA2.out hT2.out hM3.out).mono ?_
  rintro e w3 ⟨rfl, rfl⟩
  go_wp2_with fail
  exact bodyPost_ret (v := .tuple #[.int .i64 (cnt (bothB 0 1 f (putF W' H' dot dx dy)) k), .int .i64 (cnt (bothB 1 0 f (putF W' H' dot dx dy)) k), .bool true]) (by simp [results, Try.results41, go_sem, *]) rfl ⟨rfl, hE3.out⟩
end Go.Proofs.Ytcdnpnbjloaihaa
end

section
/- image.Fits: the answer 0, 0, false. No condition but those that each states. -/
namespace Go.Proofs.Ytcdnpnbjloaihaa
open Go.RowKit Go.Flow Go.Plain
open Go.Proofs
attribute [local go_sem] block_add
attribute [local go_sem ↓] Go.wp_at_zero Go.wp_at_succ

set_option maxHeartbeats 1000000 in
set_option maxRecDepth 100000 in
theorem Fits_bad (W H : Int) (A : Option Addr) (n c : Nat) (f : Nat → Int) (W' H' : Int) (B : Option Addr) (m d : Nat) (dot : Nat → Bool) (dx dy : Int) (w : World) (hA : Ints w A n f) (hB : Bools w B m dot) (hnn : n ≤ 4611686018427387904) (hbad : ¬ (putE W' H' m dx dy = 0 ∧ chkI W H n f = 0 ∧ W = W' + 4 ∧ H = H' + 4)) :
    Calls Try.prog 41 #[img W H A n c, bmp W' H' B m d, .int .i64 dx, .int .i64 dy] w fun e w' => e = .returned (.tuple #[.int .i64 0, .int .i64 0, .bool false]) ∧ Ext w w' := by
  have hE0 := Lib.hid (((Ext.refl w).alloc (.cells #[.int .i64 W, .int .i64 H, .slice A n c] 27)).alloc (.cells #[.int .i64 W', .int .i64 H', .slice B m d] 48))
  have hX0 := Lib.hid ((Blk.new w 27 #[.int .i64 W, .int .i64 H, .slice A n c]).alloc (.cells #[.int .i64 W', .int .i64 H', .slice B m d] 48))
  replace hbad := Lib.hid hbad
  go_enter Try.func41, Try.ntmps41
  go_wp2_with fail
  refine (IPut_any W' H' B m d dot dx dy _ (hB.ext hE0.out)).mono ?_
  rintro e w1 (⟨h0, rfl, hE1⟩ | ⟨hp, C, cC, k, rfl, ⟨-, hk⟩, hM, hE1⟩)
  · have h0' : (putE W' H' m dx dy != 0) = true := by simpa using h0
    have hE3 := Lib.hid ((hE0.out.trans hE1).alloc (.cells #[.int .i64 0, .int .i64 0, .slice none 0 0] 27))
    replace h0 := Lib.hid h0
    clear hE1
    go_wp2_with fail
    exact bodyPost_ret (v := .tuple #[.int .i64 0, .int .i64 0, .bool false]) (by simp [results, Try.results41, go_sem, *]) rfl ⟨rfl, hE3.out⟩
  · have hX1 := hX0.out.ext hE1
    have hE1' := hE0.out.trans hE1
    have hws := hX1.lt
    obtain ⟨xc, xf, xl⟩ := hX1.rules
    replace hX1 := Lib.hid hX1
    clear hM hE1 hk
    replace hp := Lib.hid hp
    replace hE1' := Lib.hid hE1'
    have hT1 := Lib.hid (Blk.new w1 27 #[.int .i64 (W' + 4), .int .i64 (H' + 4), .slice C k cC])
    go_wp2_with fail
    refine (ICheck_any W H A n c f _ hnn (hA.ext (hE1'.out.alloc _))).mono ?_
    rintro e w2 ⟨rfl, hE2⟩
    have hX2 := (hX1.out.alloc _).ext hE2
    have hT2 := hT1.out.ext hE2
    have hE3 := Lib.hid ((hE1'.out.alloc _).trans hE2)
    clear xc xf xl
    obtain ⟨xc, xf, xl⟩ := hX2.rules
    obtain ⟨tc, tf, tl⟩ := hT2.rules
    clear hE2 hX2 hT1 hX1 hT2
    by_cases hok : chkI W H n f = 0
    · have hne : (chkI W H n f != 0) = false := by simpa using hok
      by_cases h1 : W = W' + 4
      · have d1 : (W != W' + 4) = false := by simpa using h1
        have h2 : H ≠ H' + 4 := fun h2 => hbad.out ⟨hp.out, hok, h1, h2⟩
        have d2 : (H != H' + 4) = true := bne_iff_ne.mpr h2
        replace hok := Lib.hid hok
        replace h1 := Lib.hid h1
        replace h2 := Lib.hid h2
        go_wp2_with fail
        exact bodyPost_ret (v := .tuple #[.int .i64 0, .int .i64 0, .bool false]) (by simp [results, Try.results41, go_sem, *]) rfl ⟨rfl, hE3.out⟩
      · have d1 : (W != W' + 4) = true := bne_iff_ne.mpr h1
        replace hok := Lib.hid hok
        replace h1 := Lib.hid h1
        go_wp2_with fail
        exact bodyPost_ret (v := .tuple #[.int .i64 0, .int .i64 0, .bool false]) (by simp [results, Try.results41, go_sem, *]) rfl ⟨rfl, hE3.out⟩
    · have hne : (chkI W H n f != 0) = true := bne_iff_ne.mpr hok
      replace hok := Lib.hid hok
      go_wp2_with fail
      exact bodyPost_ret (v := .tuple #[.int .i64 0, .int .i64 0, .bool false]) (by simp [results, Try.results41, go_sem, *]) rfl ⟨rfl, hE3.out⟩
end Go.Proofs.Ytcdnpnbjloaihaa
end

section
/- Chapter 33: fitting, and the law ProbeDivides over plain values. -/
namespace Go.Proofs.Ytcdnpnbjloaihaa
open Go.RowKit Go.Flow Go.AV Go.Plain
theorem Fits_A {L : List Bm} {Y : List Mt} (h : OkL L Y) {f : Nat → Int} (hf : ∀ p, 0 ≤ f p ∧ f p ≤ 2) {k : Nat} (hk : k < L.length) :
    ACalls Try.prog 41 [.ag (imgV 13 11 143 f), .ag (bmC (L.getD k bmZ)), .c (iC (Y.getD k mtZ).dx), .c (iC (Y.getD k mtZ).dy)] (.tu [.c (iC (cnt (bothB 0 1 f (putK L Y k)) 143)), .c (iC (cnt (bothB 1 0 f (putK L Y k)) 143)), .c (bC true)]) := by
  obtain ⟨e1, e2, e3⟩ := okBm_at h.bm hk
  have e4 := okMt_at h.mt (show k < Y.length by have := h.len; omega)
  show ACalls Try.prog 41 [.ag (imgV 13 11 143 f), .ag (bmpV (L.getD k bmZ).W (L.getD k bmZ).H (L.getD k bmZ).n (L.getD k bmZ).d), _, _] _
  rw [e1, e2, e3]
  exact ACalls.of fun O w vals hO hv => by
    obtain ⟨x, y, z, u, rfl, h1, h2, h3, h4⟩ := args4 hv
    obtain ⟨A, c, rfl, -, hA⟩ := rep_img h1
    obtain ⟨B, d, rfl, -, hB⟩ := rep_bmp h2
    cases rep_c h3
    cases rep_c h4
    exact (Fits_ok 13 11 A 143 c f 9 7 B 63 d (L.getD k bmZ).d (Y.getD k mtZ).dx (Y.getD k mtZ).dy w hA hB (chk13 fun p _ => hf p) (put9 e4) rfl rfl).mono fun e w' ⟨g1, g2⟩ => ⟨_, g1, ⟨[_, _, _], rfl, ⟨rfl, rfl⟩, ⟨rfl, rfl⟩, ⟨rfl, rfl⟩, trivial⟩, g2⟩
theorem iPut_l {L : List Bm} {Y : List Mt} (h : OkL L Y) {k : Nat} (hk : k < L.length) : ACalls Try.prog 22 [.ag (bmC (L.getD k bmZ)), .c (iC (Y.getD k mtZ).dx), .c (iC (Y.getD k mtZ).dy)] (.tu [.ag (imgV 13 11 143 (putK L Y k)), .c (iC 0)]) := by
  obtain ⟨e1, e2, e3⟩ := okBm_at h.bm hk
  have e4 := okMt_at h.mt (show k < Y.length by have := h.len; omega)
  have h := iPut_A (L.getD k bmZ).W (L.getD k bmZ).H (L.getD k bmZ).n (L.getD k bmZ).d (Y.getD k mtZ).dx (Y.getD k mtZ).dy
  show ACalls Try.prog 22 [.ag (bmpV (L.getD k bmZ).W (L.getD k bmZ).H (L.getD k bmZ).n (L.getD k bmZ).d), _, _] _
  rw [e1, e2, e3] at h ⊢
  rw [putV, if_pos (put9 e4)] at h
  exact h
abbrev fitV (f : Nat → Int) (L : List Bm) (Y : List Mt) : AV := .tu [.c (.ls (fitL f L Y L.length).length 3 (rowF bmC bmZ (fitL f L Y L.length))), .c (.ls (fitY f L Y L.length).length 4 (rowF mtC mtZ (fitY f L Y L.length)))]
set_option maxRecDepth 100000 in
theorem fitting_nil (W H : Int) (n : Nat) (f : Nat → Int) (Y : List Mt) : ACalls Try.prog 23 [.ag (imgV W H n f), .c (.ls 0 3 (rowF bmC bmZ [])), .c (.ls Y.length 4 (rowF mtC mtZ Y))] (.tu [.c (.ls 0 3 (rowF bmC bmZ [])), .c (.ls 0 4 (rowF mtC mtZ []))]) := by
  refine acalls_at Try.func23 rfl rfl Try.ntmps23 rfl ?_
  repeat (first
    | refine AWp.seq ?_
    | refine thenA_n ?_
    | refine AWp.block ?_
    | (refine AWp.region (id := 0) ?_
       refine AList.box rfl rfl rfl rfl rfl ?_
       refine AList.assign rfl rfl rfl ?_
       refine AList.assign rfl rfl rfl ?_
       refine AList.nil ?_)
    | (refine AWp.region (id := 1) ?_
       refine AList.assign rfl rfl rfl ?_
       refine AList.nil ?_)
    | (refine AWp.region (id := 2) ?_
       refine AList.assign rfl rfl rfl ?_
       refine AList.nil ?_)
    | (refine AWp.region (id := 3) ?_
       refine AList.assign rfl rfl rfl ?_
       refine AList.nil ?_))
  refine AWp.round (fun k : Nat => mkSt 65 [(1, .c (.ls 0 3 (rowF bmC bmZ []))), (8, .c (.p (.slice none 0 0))), (9, .c (.p (.slice none 0 0))), (10, .c (iC k))] [] []) (fun k => k = 0) (fun k => k) 0 rfl ?_ (fun k hk => ?_)
  · refine Wk.mk [] rfl rfl rfl ?_ trivial
    repeat (first | exact trivial | refine ⟨⟨_, rfl, by first | exact LeA.c (LeC.refl _ rfl) | exact LeA.c (LeC.ow _ _ rfl) | exact LeA.c (LeC.pt _ _ _ _ _ rfl) | exact LeA.c (LeC.nil _ rfl) | exact LeA.c (LeC.nils _ _) | (refine LeA.int ?_; omega) | (refine LeA.int ?_; dsimp only; omega) | exact LeA.c (LeC.fz rfl rfl (by first | rfl | omega) (fun i _ j _ => ⟨rfl, by first | rfl | exact rowN_imm (fun _ => rfl) _ i j | exact rowF_imm (fun _ => rfl) _ i j⟩))⟩, ?_⟩)
  · subst hk
    repeat (first
      | refine AWp.seq ?_
      | refine thenA_n ?_
      | refine AWp.exit ?_
      | refine AWp.ret ?_
      | refine AWp.condF rfl (by first | rfl | exact cmF) ?_
      | (refine AWp.region (id := 4) ?_
         refine AList.move rfl rfl rfl ?_
         refine AList.move rfl rfl rfl ?_
         refine AList.lenLs tyOk rfl rfl rfl rfl rfl ?_
         refine AList.cmpF rfl rfl rfl rfl rfl cmF ?_
         refine AList.nil ?_)
      | (refine AWp.region (id := 10) ?_
         refine AList.move rfl rfl rfl ?_
         refine AList.move rfl rfl rfl ?_
         refine AList.assign rfl rfl rfl ?_
         refine AList.assign rfl rfl rfl ?_
         refine AList.nil ?_))
    refine ⟨mkSt 65 [(6, .c (.ls 0 3 (rowF bmC bmZ []))), (7, .c (.ls 0 4 (rowF mtC mtZ [])))] [] [], [], Wk.mk [] rfl rfl rfl ?_ trivial, rfl, rfl, ARets.two (x := .c _) (y := .c _) (ARes.tmp rfl rfl) (ARes.tmp rfl rfl)⟩
    repeat (first | exact trivial | refine ⟨⟨_, rfl, by first | exact LeA.c (LeC.refl _ rfl) | exact LeA.c (LeC.ow _ _ rfl) | exact LeA.c (LeC.pt _ _ _ _ _ rfl) | exact LeA.c (LeC.nil _ rfl) | exact LeA.c (LeC.nils _ _) | (refine LeA.int ?_; omega) | (refine LeA.int ?_; dsimp only; omega) | exact LeA.c (LeC.fz rfl rfl (by first | rfl | omega) (fun i _ j _ => ⟨rfl, by first | rfl | exact rowN_imm (fun _ => rfl) _ i j | exact rowF_imm (fun _ => rfl) _ i j⟩))⟩, ?_⟩)
set_option maxHeartbeats 1000000 in
set_option maxRecDepth 100000 in
theorem fitting_A {L : List Bm} {Y : List Mt} (h : OkL L Y) {f : Nat → Int} (hf : ∀ p, 0 ≤ f p ∧ f p ≤ 2) :
    ACalls Try.prog 23 [.ag (imgV 13 11 143 f), .c (.ls L.length 3 (rowF bmC bmZ L)), .c (.ls Y.length 4 (rowF mtC mtZ Y))] (fitV f L Y) := by
  have hlY := h.len
  have hL5 := h.five
  refine acalls_at Try.func23 rfl rfl Try.ntmps23 rfl ?_
  repeat (first
    | refine AWp.seq ?_
    | refine thenA_n ?_
    | refine AWp.block ?_
    | (refine AWp.region (id := 0) ?_
       refine AList.box rfl rfl rfl rfl rfl ?_
       refine AList.assign rfl rfl rfl ?_
       refine AList.assign rfl rfl rfl ?_
       refine AList.nil ?_)
    | (refine AWp.region (id := 1) ?_
       refine AList.assign rfl rfl rfl ?_
       refine AList.nil ?_)
    | (refine AWp.region (id := 2) ?_
       refine AList.assign rfl rfl rfl ?_
       refine AList.nil ?_)
    | (refine AWp.region (id := 3) ?_
       refine AList.assign rfl rfl rfl ?_
       refine AList.nil ?_))
  refine AWp.round (fun k : Nat => mkSt 65 [(1, .c (.ls L.length 3 (rowF bmC bmZ L))), (2, .c (.ls Y.length 4 (rowF mtC mtZ Y))), (3, .c (.pt 3 3 0 0)), (8, .c (.ow 8)), (9, .c (.ow 9)), (10, .c (iC k))]
    [(3, ⟨false, 1, 3, 27, lF (imgV 13 11 143 f)⟩), (8, ⟨true, (fitL f L Y k).length, 3, 48, rowF bmC bmZ (fitL f L Y k)⟩), (9, ⟨true, (fitY f L Y k).length, 4, 50, rowF mtC mtZ (fitY f L Y k)⟩)] [3, 8, 9])
    (fun k => k ≤ L.length) (fun k => L.length - k) 0 (Nat.zero_le _) ?_ (fun k hk => ?_)
  · refine Wk.mk [(3, some 3), (8, none), (9, none)] rfl rfl rfl ?_ ?_
    · repeat (first | exact trivial | refine ⟨⟨_, rfl, by first | exact LeA.c (LeC.refl _ rfl) | exact LeA.c (LeC.ow _ _ rfl) | exact LeA.c (LeC.pt _ _ _ _ _ rfl) | exact LeA.c (LeC.nil _ rfl) | exact LeA.c (LeC.nils _ _) | (refine LeA.int ?_; omega) | (refine LeA.int ?_; dsimp only; omega) | exact LeA.c (LeC.fz rfl rfl (by first | rfl | omega) (fun i _ j _ => ⟨rfl, by first | rfl | exact rowN_imm (fun _ => rfl) _ i j | exact rowF_imm (fun _ => rfl) _ i j⟩))⟩, ?_⟩)
    · repeat (first | exact trivial | refine ⟨by first | exact HeapOk.same rfl rfl rfl rfl | exact HeapOk.lent rfl rfl rfl rfl | exact HeapOk.nil rfl rfl | exact HeapOk.row rfl rfl (by first | rfl | omega) (fun i _ j _ => ⟨rfl, by first | rfl | exact rowN_imm (fun _ => rfl) _ i j | exact rowF_imm (fun _ => rfl) _ i j⟩) | exact HeapOk.box rfl rfl (by repeat (first | exact trivial | refine ⟨by first | exact LeC.refl _ rfl | exact LeC.ow _ _ rfl | exact LeC.nil _ rfl | exact LeC.nils _ _ | exact LeC.fz rfl rfl (by first | rfl | omega) (fun i _ j _ => ⟨rfl, by first | rfl | exact rowN_imm (fun _ => rfl) _ i j | exact rowF_imm (fun _ => rfl) _ i j⟩) | exact LeC.int (by omega), ?_⟩)) rfl, ?_⟩)
  · by_cases hlt : k < L.length
    · have hF := Fits_A h hf hlt
      have hc := fit_cnt hf (putK_bd L Y k) 143
      have hll : (fitL f L Y k).length ≤ k := by unfold fitL; rw [List.length_map]; exact fitI_len f L Y k
      have hly : (fitY f L Y k).length ≤ k := by unfold fitY; rw [List.length_map]; exact fitI_len f L Y k
      have hs := fitI_succ f L Y k
      by_cases hfit : fitE f (L.getD k bmZ) (Y.getD k mtZ) = true
      · obtain ⟨c1, c2⟩ := hc.2 (fitE_iff.1 hfit)
        rw [if_pos hfit] at hs
        have hsL : fitL f L Y (k + 1) = fitL f L Y k ++ [L.getD k bmZ] := by unfold fitL; rw [hs, List.map_append]; rfl
        have hsY : fitY f L Y (k + 1) = fitY f L Y k ++ [Y.getD k mtZ] := by unfold fitY; rw [hs, List.map_append]; rfl
        repeat (first
          | refine AWp.seq ?_
          | refine thenA_n ?_
          | refine AWp.block ?_
          | refine AWp.skip ?_
          | refine inBlk_n ?_
          | refine AWp.condT rfl (by first | rfl | exact cmT) ?_
          | (refine AWp.region (id := 4) ?_
             refine AList.move rfl rfl rfl ?_
             refine AList.move rfl rfl rfl ?_
             refine AList.lenLs tyOk rfl rfl rfl rfl rfl ?_
             refine AList.cmpT rfl rfl rfl rfl rfl cmT ?_
             refine AList.nil ?_)
          | (refine AWp.region (id := 5) ?_
             refine AList.move rfl rfl rfl ?_
             refine AList.add rfl rfl rfl rfl (by omega) (by omega) ?_
             refine AList.assign rfl rfl rfl ?_
             refine AList.nil ?_)
          | (refine AWp.draw (id := 6) mixed ?_
             refine AList.loadA tyOk rfl rfl rfl rfl rfl rfl rfl oM oM ?_
             refine AList.move rfl rfl rfl ?_
             refine AList.move rfl rfl rfl ?_
             refine AList.idx (k := k) tyOk rfl rfl rfl rfl rfl rfl rfl rfl (by first | rfl | omega) oM oM ?_
             refine AList.loadAl tyOk rfl rfl rfl rfl rfl oM ?_
             refine AList.move rfl rfl rfl ?_
             refine AList.move rfl rfl rfl ?_
             refine AList.idx (k := k) tyOk rfl rfl rfl rfl rfl rfl rfl rfl (by first | rfl | omega) oM oM ?_
             refine AList.fieldPl tyOk rfl rfl rfl rfl rfl rfl rfl ?_
             refine AList.load1l tyOk rfl rfl rfl rfl rfl oM ?_
             refine AList.move rfl rfl rfl ?_
             refine AList.move rfl rfl rfl ?_
             refine AList.idx (k := k) tyOk rfl rfl rfl rfl rfl rfl rfl rfl (by first | rfl | omega) oM oM ?_
             refine AList.fieldPl tyOk rfl rfl rfl rfl rfl rfl rfl ?_
             refine AList.load1l tyOk rfl rfl rfl rfl rfl oM ?_
             refine AList.call rfl rfl rfl rfl Try.func41 rfl (by kernel_rfl) (hF) ?_
             refine AList.move rfl rfl rfl ?_
             refine AList.extract rfl rfl rfl rfl ?_
             refine AList.extract rfl rfl rfl rfl ?_
             refine AList.extract rfl rfl rfl rfl ?_
             refine AList.assign rfl rfl rfl ?_
             refine AList.assign rfl rfl rfl ?_
             refine AList.assign rfl rfl rfl ?_
             refine AList.nil ⟨by kernel_rfl, ?_⟩)
          | (refine AWp.region (id := 7) ?_
             refine AList.move rfl rfl rfl ?_
             refine AList.move rfl rfl rfl ?_
             refine AList.move rfl rfl rfl ?_
             refine AList.cmpT rfl rfl rfl rfl rfl cmT ?_
             refine AList.pickT rfl rfl rfl rfl ?_
             refine AList.move rfl rfl rfl ?_
             refine AList.move rfl rfl rfl ?_
             refine AList.cmpT rfl rfl rfl rfl rfl cmT ?_
             refine AList.pickT rfl rfl rfl rfl ?_
             refine AList.nil ?_)
          | (refine AWp.region (id := 8) ?_
             refine AList.move rfl rfl rfl ?_
             refine AList.move rfl rfl rfl ?_
             refine AList.move rfl rfl rfl ?_
             refine AList.idx (k := k) tyOk rfl rfl rfl rfl rfl rfl rfl rfl (by first | rfl | omega) oM oM ?_
             refine AList.loadAl tyOk rfl rfl rfl rfl rfl oM ?_
             refine AList.litSl tyOk rfl rfl rfl rfl rfl rfl rfl rfl rfl rfl rfl ?_
             refine AList.appL tyOk rfl rfl rfl rfl rfl rfl rfl rfl rfl rfl oM oM ?_
             refine AList.assign rfl rfl rfl ?_
             refine AList.nil ?_)
          | (refine AWp.region (id := 9) ?_
             refine AList.move rfl rfl rfl ?_
             refine AList.move rfl rfl rfl ?_
             refine AList.move rfl rfl rfl ?_
             refine AList.idx (k := k) tyOk rfl rfl rfl rfl rfl rfl rfl rfl (by first | rfl | omega) oM oM ?_
             refine AList.loadAl tyOk rfl rfl rfl rfl rfl oM ?_
             refine AList.litSl tyOk rfl rfl rfl rfl rfl rfl rfl rfl rfl rfl rfl ?_
             refine AList.appL tyOk rfl rfl rfl rfl rfl rfl rfl rfl rfl rfl oM oM ?_
             refine AList.assign rfl rfl rfl ?_
             refine AList.nil ?_))
        refine ⟨k + 1, by omega, Wk.mk [(3, some 3), (8, some 55), (9, some 62)] rfl rfl rfl ?_ ?_, by omega⟩
        · repeat (first | exact trivial | refine ⟨⟨_, rfl, by first | exact LeA.c (LeC.refl _ rfl) | exact LeA.c (LeC.ow _ _ rfl) | exact LeA.c (LeC.pt _ _ _ _ _ rfl) | exact LeA.c (LeC.nil _ rfl) | exact LeA.c (LeC.nils _ _) | (refine LeA.int ?_; omega) | (refine LeA.int ?_; dsimp only; omega) | exact LeA.c (LeC.fz rfl rfl (by first | rfl | omega) (fun i _ j _ => ⟨rfl, by first | rfl | exact rowN_imm (fun _ => rfl) _ i j | exact rowF_imm (fun _ => rfl) _ i j⟩))⟩, ?_⟩)
        · rw [hsL, hsY]
          exact ⟨HeapOk.same rfl rfl rfl rfl, HeapOk.row rfl rfl (by simp) (row_snoc _ (L.getD k bmZ) bmC_imm rfl), HeapOk.row rfl rfl (by simp) (row_snoc _ (Y.getD k mtZ) mtC_imm rfl), trivial⟩
      · have hne : ¬ (cnt (bothB 0 1 f (putK L Y k)) 143 = 0 ∧ cnt (bothB 1 0 f (putK L Y k)) 143 = 0) := fun hh => hfit (fitE_iff.2 (hc.1 hh))
        rw [if_neg hfit, List.append_nil] at hs
        have hsL : fitL f L Y (k + 1) = fitL f L Y k := by unfold fitL; rw [hs]
        have hsY : fitY f L Y (k + 1) = fitY f L Y k := by unfold fitY; rw [hs]
        by_cases hc1 : cnt (bothB 0 1 f (putK L Y k)) 143 = 0
        all_goals
          repeat (first
            | refine AWp.seq ?_
            | refine thenA_n ?_
            | refine AWp.block ?_
            | refine AWp.skip ?_
            | refine inBlk_n ?_
            | refine AWp.condT rfl (by first | rfl | exact cmT) ?_
            | refine AWp.condF rfl (by first | rfl | exact cmF) ?_
            | (refine AWp.region (id := 4) ?_
               refine AList.move rfl rfl rfl ?_
               refine AList.move rfl rfl rfl ?_
               refine AList.lenLs tyOk rfl rfl rfl rfl rfl ?_
               refine AList.cmpT rfl rfl rfl rfl rfl cmT ?_
               refine AList.nil ?_)
            | (refine AWp.region (id := 5) ?_
               refine AList.move rfl rfl rfl ?_
               refine AList.add rfl rfl rfl rfl (by omega) (by omega) ?_
               refine AList.assign rfl rfl rfl ?_
               refine AList.nil ?_)
            | (refine AWp.draw (id := 6) mixed ?_
               refine AList.loadA tyOk rfl rfl rfl rfl rfl rfl rfl oM oM ?_
               refine AList.move rfl rfl rfl ?_
               refine AList.move rfl rfl rfl ?_
               refine AList.idx (k := k) tyOk rfl rfl rfl rfl rfl rfl rfl rfl (by first | rfl | omega) oM oM ?_
               refine AList.loadAl tyOk rfl rfl rfl rfl rfl oM ?_
               refine AList.move rfl rfl rfl ?_
               refine AList.move rfl rfl rfl ?_
               refine AList.idx (k := k) tyOk rfl rfl rfl rfl rfl rfl rfl rfl (by first | rfl | omega) oM oM ?_
               refine AList.fieldPl tyOk rfl rfl rfl rfl rfl rfl rfl ?_
               refine AList.load1l tyOk rfl rfl rfl rfl rfl oM ?_
               refine AList.move rfl rfl rfl ?_
               refine AList.move rfl rfl rfl ?_
               refine AList.idx (k := k) tyOk rfl rfl rfl rfl rfl rfl rfl rfl (by first | rfl | omega) oM oM ?_
               refine AList.fieldPl tyOk rfl rfl rfl rfl rfl rfl rfl ?_
               refine AList.load1l tyOk rfl rfl rfl rfl rfl oM ?_
               refine AList.call rfl rfl rfl rfl Try.func41 rfl (by kernel_rfl) (hF) ?_
               refine AList.move rfl rfl rfl ?_
               refine AList.extract rfl rfl rfl rfl ?_
               refine AList.extract rfl rfl rfl rfl ?_
               refine AList.extract rfl rfl rfl rfl ?_
               refine AList.assign rfl rfl rfl ?_
               refine AList.assign rfl rfl rfl ?_
               refine AList.assign rfl rfl rfl ?_
               refine AList.nil ⟨by kernel_rfl, ?_⟩)
            | (refine AWp.region (id := 7) ?_
               refine AList.move rfl rfl rfl ?_
               refine AList.move rfl rfl rfl ?_
               refine AList.move rfl rfl rfl ?_
               first | refine AList.cmpT rfl rfl rfl rfl rfl cmT ?_ | refine AList.cmpF rfl rfl rfl rfl rfl cmF ?_
               refine AList.pickT rfl rfl rfl rfl ?_
               refine AList.move rfl rfl rfl ?_
               first | refine AList.skip rfl rfl ?_ | refine AList.move rfl rfl rfl ?_
               first | refine AList.skip rfl rfl ?_ | refine AList.cmpF rfl rfl rfl rfl rfl cmF ?_
               first | refine AList.pickT rfl rfl rfl rfl ?_ | refine AList.pickF rfl rfl rfl rfl ?_
               refine AList.nil ?_))
          refine ⟨k + 1, by omega, Wk.mk [(3, some 3), (8, some 8), (9, some 9)] rfl rfl rfl ?_ ?_, by omega⟩
          · repeat (first | exact trivial | refine ⟨⟨_, rfl, by first | exact LeA.c (LeC.refl _ rfl) | exact LeA.c (LeC.ow _ _ rfl) | exact LeA.c (LeC.pt _ _ _ _ _ rfl) | exact LeA.c (LeC.nil _ rfl) | exact LeA.c (LeC.nils _ _) | (refine LeA.int ?_; omega) | (refine LeA.int ?_; dsimp only; omega) | exact LeA.c (LeC.fz rfl rfl (by first | rfl | omega) (fun i _ j _ => ⟨rfl, by first | rfl | exact rowN_imm (fun _ => rfl) _ i j | exact rowF_imm (fun _ => rfl) _ i j⟩))⟩, ?_⟩)
          · rw [hsL, hsY]
            repeat (first | exact trivial | refine ⟨by first | exact HeapOk.same rfl rfl rfl rfl | exact HeapOk.lent rfl rfl rfl rfl | exact HeapOk.nil rfl rfl | exact HeapOk.row rfl rfl (by first | rfl | omega) (fun i _ j _ => ⟨rfl, by first | rfl | exact rowN_imm (fun _ => rfl) _ i j | exact rowF_imm (fun _ => rfl) _ i j⟩) | exact HeapOk.box rfl rfl (by repeat (first | exact trivial | refine ⟨by first | exact LeC.refl _ rfl | exact LeC.ow _ _ rfl | exact LeC.nil _ rfl | exact LeC.nils _ _ | exact LeC.fz rfl rfl (by first | rfl | omega) (fun i _ j _ => ⟨rfl, by first | rfl | exact rowN_imm (fun _ => rfl) _ i j | exact rowF_imm (fun _ => rfl) _ i j⟩) | exact LeC.int (by omega), ?_⟩)) rfl, ?_⟩)
    · obtain rfl : k = L.length := by omega
      repeat (first
        | refine AWp.seq ?_
        | refine thenA_n ?_
        | refine AWp.exit ?_
        | refine AWp.ret ?_
        | refine AWp.condF rfl (by first | rfl | exact cmF) ?_
        | (refine AWp.region (id := 4) ?_
           refine AList.move rfl rfl rfl ?_
           refine AList.move rfl rfl rfl ?_
           refine AList.lenLs tyOk rfl rfl rfl rfl rfl ?_
           refine AList.cmpF rfl rfl rfl rfl rfl cmF ?_
           refine AList.nil ?_)
        | (refine AWp.region (id := 10) ?_
           refine AList.move rfl rfl rfl ?_
           refine AList.move rfl rfl rfl ?_
           refine AList.assign rfl rfl rfl ?_
           refine AList.assign rfl rfl rfl ?_
           refine AList.nil ?_))
      refine ⟨mkSt 65 [(6, .c (.ls (fitL f L Y L.length).length 3 (rowF bmC bmZ (fitL f L Y L.length)))), (7, .c (.ls (fitY f L Y L.length).length 4 (rowF mtC mtZ (fitY f L Y L.length))))] [] [], [], Wk.mk [] rfl rfl rfl ?_ trivial, rfl, rfl, ARets.two (x := .c _) (y := .c _) (ARes.tmp rfl rfl) (ARes.tmp rfl rfl)⟩
      repeat (first | exact trivial | refine ⟨⟨_, rfl, by first | exact LeA.c (LeC.refl _ rfl) | exact LeA.c (LeC.ow _ _ rfl) | exact LeA.c (LeC.pt _ _ _ _ _ rfl) | exact LeA.c (LeC.nil _ rfl) | exact LeA.c (LeC.nils _ _) | (refine LeA.int ?_; omega) | (refine LeA.int ?_; dsimp only; omega) | exact LeA.c (LeC.fz rfl rfl (by first | rfl | omega) (fun i _ j _ => ⟨rfl, by first | rfl | exact rowN_imm (fun _ => rfl) _ i j | exact rowF_imm (fun _ => rfl) _ i j⟩))⟩, ?_⟩)
end Go.Proofs.Ytcdnpnbjloaihaa
end

section
/- Chapter 33: the law ProbeDivides over plain values. -/
namespace Go.Proofs.Ytcdnpnbjloaihaa
open Go.RowKit Go.Flow Go.AV Go.Plain
set_option maxHeartbeats 3000000 in
set_option maxRecDepth 100000 in
theorem ProbeDivides_A (c : Case) (hc : c.ok) : ECalls Try.prog 8 [.ag (caC c)] (fun v => v = .c (bC true)) := by
  refine ecalls_at Try.func8 rfl rfl Try.ntmps8 rfl ?_
  repeat (first
    | refine AWp.seq ?_
    | (refine AWp.region (id := 0) ?_
       refine AList.box rfl rfl rfl rfl rfl ?_
       refine AList.assign rfl rfl rfl ?_
       refine AList.nil ?_)
    | (refine AWp.region (id := 1) ?_
       refine AList.call rfl rfl rfl rfl Try.func9 rfl (by kernel_rfl) (sanity_A) ?_
       refine AList.assign rfl rfl rfl ?_
       refine AList.nil ?_))
  refine AWp.text ?_
  refine AText.split 1 ?_
  refine AList.loadA tyOk rfl rfl rfl rfl rfl rfl rfl oM oM ?_
  refine AList.nil ?_
  refine AText.callE rfl rfl rfl rfl Try.func10 rfl (by kernel_rfl) (made_E c hc) ?_
  rintro _ ⟨L, Y, x, hx, rfl⟩
  refine AText.all ?_
  refine AList.move rfl rfl rfl ?_
  refine AList.extract rfl rfl rfl rfl ?_
  refine AList.extract rfl rfl rfl rfl ?_
  refine AList.extract rfl rfl rfl rfl ?_
  refine AList.alloc tyOk rfl rfl rfl rfl rfl ?_
  refine AList.assign rfl rfl rfl ?_
  refine AList.assign rfl rfl rfl ?_
  refine AList.store tyOk rfl rfl rfl rfl rfl rfl rfl rfl oM oM ?_
  refine AList.nil ?_
  by_cases hL0 : L.length = 0
  · obtain rfl := hx.none hL0
    obtain rfl : L = [] := List.length_eq_zero_iff.1 hL0
    obtain rfl : Y = [] := List.length_eq_zero_iff.1 (by rw [hx.1]; rfl)
    have hF := fitting_nil 0 0 0 (fun _ => 0) []
    have hN := pNext_A 0 0 0 (fun _ => 0) [] [] (by omega) (by decide)
    rw [nextL_len (.inl rfl)] at hN
    have hK := Known_A 0 0 0 (fun _ => 0) (by omega)
    repeat (first
      | refine AWp.seq ?_
      | refine thenA_n ?_
      | refine AWp.ret ?_
      | refine thenA_r ?_
      | refine AWp.condT rfl (by first | rfl | exact cmT) ?_
      | (refine AWp.region (id := 3) ?_
         refine AList.loadA tyOk rfl rfl rfl rfl rfl rfl rfl oM oM ?_
         refine AList.move rfl rfl rfl ?_
         refine AList.move rfl rfl rfl ?_
         refine AList.call rfl rfl rfl rfl Try.func23 rfl (by kernel_rfl) (hF) ?_
         refine AList.move rfl rfl rfl ?_
         refine AList.extract rfl rfl rfl rfl ?_
         refine AList.extract rfl rfl rfl rfl ?_
         refine AList.assign rfl rfl rfl ?_
         refine AList.assign rfl rfl rfl ?_
         refine AList.nil ?_)
      | (refine AWp.region (id := 4) ?_
         refine AList.loadA tyOk rfl rfl rfl rfl rfl rfl rfl oM oM ?_
         refine AList.move rfl rfl rfl ?_
         refine AList.move rfl rfl rfl ?_
         refine AList.call rfl rfl rfl rfl Try.func19 rfl (by kernel_rfl) (hN) ?_
         refine AList.move rfl rfl rfl ?_
         refine AList.extract rfl rfl rfl rfl ?_
         refine AList.extract rfl rfl rfl rfl ?_
         refine AList.extract rfl rfl rfl rfl ?_
         refine AList.alloc tyOk rfl rfl rfl rfl rfl ?_
         refine AList.store tyOk rfl rfl rfl rfl rfl rfl rfl rfl oM oM ?_
         refine AList.assign rfl rfl rfl ?_
         refine AList.assign rfl rfl rfl ?_
         refine AList.nil ?_)
      | (refine AWp.region (id := 5) ?_
         refine AList.move rfl rfl rfl ?_
         refine AList.notB rfl rfl rfl ?_
         refine AList.nil ?_)
      | (refine AWp.draw (id := 6) mixed ?_
         refine AList.move rfl rfl rfl ?_
         refine AList.move rfl rfl rfl ?_
         refine AList.move rfl rfl rfl ?_
         refine AList.cmpT rfl rfl rfl rfl rfl (by simp only [cmpP, eq_self, decide_true]) ?_
         refine AList.pickT rfl rfl rfl rfl ?_
         refine AList.move rfl rfl rfl ?_
         refine AList.move rfl rfl rfl ?_
         refine AList.lenLs tyOk rfl rfl rfl rfl rfl ?_
         refine AList.cmpT rfl rfl rfl rfl rfl cmT ?_
         refine AList.move rfl rfl rfl ?_
         refine AList.skip rfl rfl ?_
         refine AList.skip rfl rfl ?_
         refine AList.skip rfl rfl ?_
         refine AList.skip rfl rfl ?_
         refine AList.skip rfl rfl ?_
         refine AList.skip rfl rfl ?_
         refine AList.pickT rfl rfl rfl rfl ?_
         refine AList.pickT rfl rfl rfl rfl ?_
         refine AList.assign rfl rfl rfl ?_
         refine AList.nil ⟨by kernel_rfl, ?_⟩))
    refine ⟨_, rfl, mkSt 123 [(2, .c (bC true))] [] [], [], Wk.mk [] rfl rfl rfl ?_ trivial, rfl, rfl, ARets.one (x := .c _) (ARes.tmp rfl rfl)⟩
    repeat (first | exact trivial | refine ⟨⟨_, rfl, by first | exact LeA.c (LeC.refl _ rfl) | exact LeA.c (LeC.ow _ _ rfl) | exact LeA.c (LeC.pt _ _ _ _ _ rfl) | exact LeA.c (LeC.nil _ rfl) | exact LeA.c (LeC.nils _ _) | (refine LeA.int ?_; omega) | (refine LeA.int ?_; dsimp only; omega) | exact LeA.c (LeC.fz rfl rfl (by first | rfl | omega) (fun i _ j _ => ⟨rfl, by first | rfl | exact rowN_imm (fun _ => rfl) _ i j | exact rowF_imm (fun _ => rfl) _ i j⟩))⟩, ?_⟩)
  · obtain ⟨f, rfl, hfp⟩ := hx.some hL0
    have hpx := pix3 hfp
    have hF := fitting_A hx.okL hpx
    have hokL := hx.okL.fit (f := f)
    have hfit : ∀ i, i < (fitL f L Y L.length).length → fitE f ((fitL f L Y L.length).getD i bmZ) ((fitY f L Y L.length).getD i mtZ) = true := fun i hi => by
      obtain ⟨j, -, h1, h2, h3⟩ := fit_at hi
      rw [h2, h3]
      exact h1
    unfold fitV at hF
    generalize fitL f L Y L.length = L1 at hF hokL hfit
    generalize fitY f L Y L.length = Y1 at hF hokL hfit
    have hL5 := hokL.five
    have hlY := hokL.len
    have hN := pNext_A 13 11 143 f L1 Y1 (by omega) (by omega)
    have hK := Known_A 13 11 143 f (by omega)
    by_cases hL1 : L1.length = 0
    · rw [nextL_len (.inl hL1)] at hN
      repeat (first
        | refine AWp.seq ?_
        | refine thenA_n ?_
        | refine AWp.ret ?_
        | refine thenA_r ?_
        | refine AWp.condT rfl (by first | rfl | exact cmT) ?_
        | (refine AWp.region (id := 3) ?_
           refine AList.loadA tyOk rfl rfl rfl rfl rfl rfl rfl oM oM ?_
           refine AList.move rfl rfl rfl ?_
           refine AList.move rfl rfl rfl ?_
           refine AList.call rfl rfl rfl rfl Try.func23 rfl (by kernel_rfl) (hF) ?_
           refine AList.move rfl rfl rfl ?_
           refine AList.extract rfl rfl rfl rfl ?_
           refine AList.extract rfl rfl rfl rfl ?_
           refine AList.assign rfl rfl rfl ?_
           refine AList.assign rfl rfl rfl ?_
           refine AList.nil ?_)
        | (refine AWp.region (id := 4) ?_
           refine AList.loadA tyOk rfl rfl rfl rfl rfl rfl rfl oM oM ?_
           refine AList.move rfl rfl rfl ?_
           refine AList.move rfl rfl rfl ?_
           refine AList.call rfl rfl rfl rfl Try.func19 rfl (by kernel_rfl) (hN) ?_
           refine AList.move rfl rfl rfl ?_
           refine AList.extract rfl rfl rfl rfl ?_
           refine AList.extract rfl rfl rfl rfl ?_
           refine AList.extract rfl rfl rfl rfl ?_
           refine AList.alloc tyOk rfl rfl rfl rfl rfl ?_
           refine AList.store tyOk rfl rfl rfl rfl rfl rfl rfl rfl oM oM ?_
           refine AList.assign rfl rfl rfl ?_
           refine AList.assign rfl rfl rfl ?_
           refine AList.nil ?_)
        | (refine AWp.region (id := 5) ?_
           refine AList.move rfl rfl rfl ?_
           refine AList.notB rfl rfl rfl ?_
           refine AList.nil ?_)
        | (refine AWp.draw (id := 6) mixed ?_
           refine AList.move rfl rfl rfl ?_
           refine AList.move rfl rfl rfl ?_
           refine AList.move rfl rfl rfl ?_
           refine AList.cmpT rfl rfl rfl rfl rfl (by simp only [cmpP, eq_self, decide_true]) ?_
           refine AList.pickT rfl rfl rfl rfl ?_
           refine AList.move rfl rfl rfl ?_
           refine AList.move rfl rfl rfl ?_
           refine AList.lenLs tyOk rfl rfl rfl rfl rfl ?_
           refine AList.cmpT rfl rfl rfl rfl rfl cmT ?_
           refine AList.move rfl rfl rfl ?_
           refine AList.skip rfl rfl ?_
           refine AList.skip rfl rfl ?_
           refine AList.skip rfl rfl ?_
           refine AList.skip rfl rfl ?_
           refine AList.skip rfl rfl ?_
           refine AList.skip rfl rfl ?_
           refine AList.pickT rfl rfl rfl rfl ?_
           refine AList.pickT rfl rfl rfl rfl ?_
           refine AList.assign rfl rfl rfl ?_
           refine AList.nil ⟨by kernel_rfl, ?_⟩))
      refine ⟨_, rfl, mkSt 123 [(2, .c (bC true))] [] [], [], Wk.mk [] rfl rfl rfl ?_ trivial, rfl, rfl, ARets.one (x := .c _) (ARes.tmp rfl rfl)⟩
      repeat (first | exact trivial | refine ⟨⟨_, rfl, by first | exact LeA.c (LeC.refl _ rfl) | exact LeA.c (LeC.ow _ _ rfl) | exact LeA.c (LeC.pt _ _ _ _ _ rfl) | exact LeA.c (LeC.nil _ rfl) | exact LeA.c (LeC.nils _ _) | (refine LeA.int ?_; omega) | (refine LeA.int ?_; dsimp only; omega) | exact LeA.c (LeC.fz rfl rfl (by first | rfl | omega) (fun i _ j _ => ⟨rfl, by first | rfl | exact rowN_imm (fun _ => rfl) _ i j | exact rowF_imm (fun _ => rfl) _ i j⟩))⟩, ?_⟩)
    · by_cases hb : (blocks 13 11 143 f).length = 0
      · rw [next_no hpx hb] at hN
        have hkn : knownV 13 11 143 f = 143 := by
          unfold knownV
          rw [if_pos (chk13 fun p _ => hpx p)]
          exact known_all fun p hp => no_unk hb hp
        rw [hkn] at hK
        repeat (first
          | refine AWp.seq ?_
          | refine thenA_n ?_
          | refine AWp.ret ?_
          | refine thenA_r ?_
          | refine AWp.condT rfl (by first | rfl | exact cmT) ?_
          | (refine AWp.region (id := 3) ?_
             refine AList.loadA tyOk rfl rfl rfl rfl rfl rfl rfl oM oM ?_
             refine AList.move rfl rfl rfl ?_
             refine AList.move rfl rfl rfl ?_
             refine AList.call rfl rfl rfl rfl Try.func23 rfl (by kernel_rfl) (hF) ?_
             refine AList.move rfl rfl rfl ?_
             refine AList.extract rfl rfl rfl rfl ?_
             refine AList.extract rfl rfl rfl rfl ?_
             refine AList.assign rfl rfl rfl ?_
             refine AList.assign rfl rfl rfl ?_
             refine AList.nil ?_)
          | (refine AWp.region (id := 4) ?_
             refine AList.loadA tyOk rfl rfl rfl rfl rfl rfl rfl oM oM ?_
             refine AList.move rfl rfl rfl ?_
             refine AList.move rfl rfl rfl ?_
             refine AList.call rfl rfl rfl rfl Try.func19 rfl (by kernel_rfl) (hN) ?_
             refine AList.move rfl rfl rfl ?_
             refine AList.extract rfl rfl rfl rfl ?_
             refine AList.extract rfl rfl rfl rfl ?_
             refine AList.extract rfl rfl rfl rfl ?_
             refine AList.alloc tyOk rfl rfl rfl rfl rfl ?_
             refine AList.store tyOk rfl rfl rfl rfl rfl rfl rfl rfl oM oM ?_
             refine AList.assign rfl rfl rfl ?_
             refine AList.assign rfl rfl rfl ?_
             refine AList.nil ?_)
          | (refine AWp.region (id := 5) ?_
             refine AList.move rfl rfl rfl ?_
             refine AList.notB rfl rfl rfl ?_
             refine AList.nil ?_)
          | (refine AWp.draw (id := 6) mixed ?_
             refine AList.move rfl rfl rfl ?_
             refine AList.move rfl rfl rfl ?_
             refine AList.move rfl rfl rfl ?_
             refine AList.cmpT rfl rfl rfl rfl rfl (by simp only [cmpP, eq_self, decide_true]) ?_
             refine AList.pickT rfl rfl rfl rfl ?_
             refine AList.move rfl rfl rfl ?_
             refine AList.move rfl rfl rfl ?_
             refine AList.lenLs tyOk rfl rfl rfl rfl rfl ?_
             refine AList.cmpF rfl rfl rfl rfl rfl cmF ?_
             refine AList.move rfl rfl rfl ?_
             refine AList.loadA tyOk rfl rfl rfl rfl rfl rfl rfl oM oM ?_
             refine AList.call rfl rfl rfl rfl Try.func24 rfl (by kernel_rfl) (hK) ?_
             refine AList.fieldPt tyOk rfl rfl rfl rfl rfl rfl rfl ?_
             refine AList.load1 tyOk rfl rfl rfl rfl rfl rfl rfl oM oM ?_
             refine AList.lenLs tyOk rfl rfl rfl rfl rfl ?_
             refine AList.cmpT rfl rfl rfl rfl rfl cmT ?_
             refine AList.pickF rfl rfl rfl rfl ?_
             refine AList.pickT rfl rfl rfl rfl ?_
             refine AList.assign rfl rfl rfl ?_
             refine AList.nil ⟨by kernel_rfl, ?_⟩))
        refine ⟨_, rfl, mkSt 123 [(2, .c (bC true))] [] [], [], Wk.mk [] rfl rfl rfl ?_ trivial, rfl, rfl, ARets.one (x := .c _) (ARes.tmp rfl rfl)⟩
        repeat (first | exact trivial | refine ⟨⟨_, rfl, by first | exact LeA.c (LeC.refl _ rfl) | exact LeA.c (LeC.ow _ _ rfl) | exact LeA.c (LeC.pt _ _ _ _ _ rfl) | exact LeA.c (LeC.nil _ rfl) | exact LeA.c (LeC.nils _ _) | (refine LeA.int ?_; omega) | (refine LeA.int ?_; dsimp only; omega) | exact LeA.c (LeC.fz rfl rfl (by first | rfl | omega) (fun i _ j _ => ⟨rfl, by first | rfl | exact rowN_imm (fun _ => rfl) _ i j | exact rowF_imm (fun _ => rfl) _ i j⟩))⟩, ?_⟩)
      · obtain ⟨r, hr1, hr2⟩ := next_ok hokL (by omega) hpx (by omega)
        have hbd := mst_bd (f := f) (L := L1) (Y := Y1) (r := r) (by omega)
        have hsame := fun k hk => mst_same (f := f) (L := L1) (Y := Y1) (r := r) (k := k) hk
        rw [hr2] at hN
        generalize mstT 13 143 f L1.length (fun k => (putI L1 Y1 k).f) r = nn at hN hbd hsame
        repeat (first
          | refine AWp.seq ?_
          | refine thenA_n ?_
          | refine AWp.block ?_
          | refine AWp.skip ?_
          | refine AWp.condF rfl (by first | rfl | exact cmF) ?_
          | (refine AWp.region (id := 3) ?_
             refine AList.loadA tyOk rfl rfl rfl rfl rfl rfl rfl oM oM ?_
             refine AList.move rfl rfl rfl ?_
             refine AList.move rfl rfl rfl ?_
             refine AList.call rfl rfl rfl rfl Try.func23 rfl (by kernel_rfl) (hF) ?_
             refine AList.move rfl rfl rfl ?_
             refine AList.extract rfl rfl rfl rfl ?_
             refine AList.extract rfl rfl rfl rfl ?_
             refine AList.assign rfl rfl rfl ?_
             refine AList.assign rfl rfl rfl ?_
             refine AList.nil ?_)
          | (refine AWp.region (id := 4) ?_
             refine AList.loadA tyOk rfl rfl rfl rfl rfl rfl rfl oM oM ?_
             refine AList.move rfl rfl rfl ?_
             refine AList.move rfl rfl rfl ?_
             refine AList.call rfl rfl rfl rfl Try.func19 rfl (by kernel_rfl) (hN) ?_
             refine AList.move rfl rfl rfl ?_
             refine AList.extract rfl rfl rfl rfl ?_
             refine AList.extract rfl rfl rfl rfl ?_
             refine AList.extract rfl rfl rfl rfl ?_
             refine AList.alloc tyOk rfl rfl rfl rfl rfl ?_
             refine AList.store tyOk rfl rfl rfl rfl rfl rfl rfl rfl oM oM ?_
             refine AList.assign rfl rfl rfl ?_
             refine AList.assign rfl rfl rfl ?_
             refine AList.nil ?_)
          | (refine AWp.region (id := 5) ?_
             refine AList.move rfl rfl rfl ?_
             refine AList.notB rfl rfl rfl ?_
             refine AList.nil ?_)
          | (refine AWp.region (id := 7) ?_
             refine AList.move rfl rfl rfl ?_
             refine AList.cmpF rfl rfl rfl rfl rfl cmF ?_
             refine AList.move rfl rfl rfl ?_
             refine AList.move rfl rfl rfl ?_
             refine AList.move rfl rfl rfl ?_
             refine AList.lenLs tyOk rfl rfl rfl rfl rfl ?_
             refine AList.cmpF rfl rfl rfl rfl rfl cmF ?_
             refine AList.pickF rfl rfl rfl rfl ?_
             refine AList.nil ?_)
          | (refine AWp.region (id := 9) ?_
             refine AList.assign rfl rfl rfl ?_
             refine AList.nil ?_))
        refine AWp.round (fun k : Nat => mkSt 123 [(3, .c (bC true)), (4, .c (.ls L1.length 3 (rowF bmC bmZ L1))), (5, .c (.ls Y1.length 4 (rowF mtC mtZ Y1))), (6, .c (.pt 6 3 0 0)), (7, .c (.pt 7 4 0 0)), (8, .c (iC nn)), (10, .c (iC k))]
          [(6, ⟨false, 1, 3, 27, lF (imgV 13 11 143 f)⟩), (7, ⟨false, 1, 4, 29, lF (rcC r)⟩)] [6, 7])
          (fun k => k ≤ L1.length) (fun k => L1.length - k) 0 (Nat.zero_le _) ?_ (fun k hk => ?_)
        · refine Wk.mk [(6, some 6), (7, some 7)] rfl rfl rfl ?_ ?_
          · repeat (first | exact trivial | refine ⟨⟨_, rfl, by first | exact LeA.c (LeC.refl _ rfl) | exact LeA.c (LeC.ow _ _ rfl) | exact LeA.c (LeC.pt _ _ _ _ _ rfl) | exact LeA.c (LeC.nil _ rfl) | exact LeA.c (LeC.nils _ _) | (refine LeA.int ?_; omega) | (refine LeA.int ?_; dsimp only; omega) | exact LeA.c (LeC.fz rfl rfl (by first | rfl | omega) (fun i _ j _ => ⟨rfl, by first | rfl | exact rowN_imm (fun _ => rfl) _ i j | exact rowF_imm (fun _ => rfl) _ i j⟩))⟩, ?_⟩)
          · repeat (first | exact trivial | refine ⟨by first | exact HeapOk.same rfl rfl rfl rfl | exact HeapOk.lent rfl rfl rfl rfl | exact HeapOk.nil rfl rfl | exact HeapOk.row rfl rfl (by first | rfl | omega) (fun i _ j _ => ⟨rfl, by first | rfl | exact rowN_imm (fun _ => rfl) _ i j | exact rowF_imm (fun _ => rfl) _ i j⟩) | exact HeapOk.box rfl rfl (by repeat (first | exact trivial | refine ⟨by first | exact LeC.refl _ rfl | exact LeC.ow _ _ rfl | exact LeC.nil _ rfl | exact LeC.nils _ _ | exact LeC.fz rfl rfl (by first | rfl | omega) (fun i _ j _ => ⟨rfl, by first | rfl | exact rowN_imm (fun _ => rfl) _ i j | exact rowF_imm (fun _ => rfl) _ i j⟩) | exact LeC.int (by omega), ?_⟩)) rfl, ?_⟩)
        · by_cases hlt : k < L1.length
          · have hP := iPut_l hokL hlt
            have hFi := pFill_k (L := L1) (Y := Y1) hpx k r
            have hpx3 := fillF_px (W := 13) (L := L1) (Y := Y1) (k := k) (r := r) hpx
            have hF2 := fitting_A hokL hpx3
            have hl := fit_left (f := f) (r := r) hokL hlt hfit
            have hl1 := fit_self (f := f) (L := L1) (Y := Y1) (r := r) hlt
            have hl2 := hsame k hlt
            have hlen : (fitL (fillF 13 f (putK L1 Y1 k) r) L1 Y1 L1.length).length = (fitI (fillF 13 f (putK L1 Y1 k) r) L1 Y1 L1.length).length := by unfold fitL; rw [List.length_map]
            rw [hl] at hlen
            generalize sameN (uL (unkR 13 f r) 143).length (fun j => (uL (unkR 13 f r) 143).getD j 0) (fun i => (putI L1 Y1 i).f) k L1.length = m at hl1 hl2 hlen
            unfold fitV at hF2
            generalize fitL (fillF 13 f (putK L1 Y1 k) r) L1 Y1 L1.length = L2 at hF2 hlen
            generalize fitY (fillF 13 f (putK L1 Y1 k) r) L1 Y1 L1.length = Y2 at hF2
            repeat (first
              | refine AWp.seq ?_
              | refine thenA_n ?_
              | refine AWp.block ?_
              | refine AWp.skip ?_
              | refine inBlk_n ?_
              | refine AWp.condT rfl (by first | rfl | exact cmT) ?_
              | refine AWp.condF rfl (by first | rfl | exact cmF) ?_
              | (refine AWp.region (id := 10) ?_
                 refine AList.move rfl rfl rfl ?_
                 refine AList.move rfl rfl rfl ?_
                 refine AList.lenLs tyOk rfl rfl rfl rfl rfl ?_
                 refine AList.cmpT rfl rfl rfl rfl rfl cmT ?_
                 refine AList.nil ?_)
              | (refine AWp.region (id := 11) ?_
                 refine AList.move rfl rfl rfl ?_
                 refine AList.add rfl rfl rfl rfl (by omega) (by omega) ?_
                 refine AList.assign rfl rfl rfl ?_
                 refine AList.nil ?_)
              | (refine AWp.draw (id := 12) mixed ?_
                 refine AList.move rfl rfl rfl ?_
                 refine AList.move rfl rfl rfl ?_
                 refine AList.idx (k := k) tyOk rfl rfl rfl rfl rfl rfl rfl rfl (by first | rfl | omega) oM oM ?_
                 refine AList.loadAl tyOk rfl rfl rfl rfl rfl oM ?_
                 refine AList.move rfl rfl rfl ?_
                 refine AList.move rfl rfl rfl ?_
                 refine AList.idx (k := k) tyOk rfl rfl rfl rfl rfl rfl rfl rfl (by first | rfl | omega) oM oM ?_
                 refine AList.fieldPl tyOk rfl rfl rfl rfl rfl rfl rfl ?_
                 refine AList.load1l tyOk rfl rfl rfl rfl rfl oM ?_
                 refine AList.move rfl rfl rfl ?_
                 refine AList.move rfl rfl rfl ?_
                 refine AList.idx (k := k) tyOk rfl rfl rfl rfl rfl rfl rfl rfl (by first | rfl | omega) oM oM ?_
                 refine AList.fieldPl tyOk rfl rfl rfl rfl rfl rfl rfl ?_
                 refine AList.load1l tyOk rfl rfl rfl rfl rfl oM ?_
                 refine AList.call rfl rfl rfl rfl Try.func22 rfl (by kernel_rfl) (hP) ?_
                 refine AList.move rfl rfl rfl ?_
                 refine AList.extract rfl rfl rfl rfl ?_
                 refine AList.extract rfl rfl rfl rfl ?_
                 refine AList.alloc tyOk rfl rfl rfl rfl rfl ?_
                 refine AList.store tyOk rfl rfl rfl rfl rfl rfl rfl rfl oM oM ?_
                 refine AList.assign rfl rfl rfl ?_
                 refine AList.nil ⟨by kernel_rfl, ?_⟩)
              | (refine AWp.region (id := 13) ?_
                 refine AList.loadA tyOk rfl rfl rfl rfl rfl rfl rfl oM oM ?_
                 refine AList.loadA tyOk rfl rfl rfl rfl rfl rfl rfl oM oM ?_
                 refine AList.loadA tyOk rfl rfl rfl rfl rfl rfl rfl oM oM ?_
                 refine AList.call rfl rfl rfl rfl Try.func16 rfl (by kernel_rfl) (hFi) ?_
                 refine AList.move rfl rfl rfl ?_
                 refine AList.extract rfl rfl rfl rfl ?_
                 refine AList.extract rfl rfl rfl rfl ?_
                 refine AList.alloc tyOk rfl rfl rfl rfl rfl ?_
                 refine AList.store tyOk rfl rfl rfl rfl rfl rfl rfl rfl oM oM ?_
                 refine AList.assign rfl rfl rfl ?_
                 refine AList.nil ?_)
              | (refine AWp.region (id := 14) ?_
                 refine AList.loadA tyOk rfl rfl rfl rfl rfl rfl rfl oM oM ?_
                 refine AList.move rfl rfl rfl ?_
                 refine AList.move rfl rfl rfl ?_
                 refine AList.call rfl rfl rfl rfl Try.func23 rfl (by kernel_rfl) (hF2) ?_
                 refine AList.move rfl rfl rfl ?_
                 refine AList.extract rfl rfl rfl rfl ?_
                 refine AList.extract rfl rfl rfl rfl ?_
                 refine AList.assign rfl rfl rfl ?_
                 refine AList.assign rfl rfl rfl ?_
                 refine AList.nil ?_)
              | (refine AWp.region (id := 15) ?_
                 refine AList.move rfl rfl rfl ?_
                 refine AList.cmp rfl rfl rfl rfl rfl ?_
                 refine AList.move rfl rfl rfl ?_
                 refine AList.move rfl rfl rfl ?_
                 refine AList.cmp rfl rfl rfl rfl rfl ?_
                 refine AList.pickF rfl rfl rfl rfl ?_
                 refine AList.move rfl rfl rfl ?_
                 refine AList.move rfl rfl rfl ?_
                 refine AList.lenLs tyOk rfl rfl rfl rfl rfl ?_
                 refine AList.cmpF rfl rfl rfl rfl rfl cmF ?_
                 refine AList.pickF rfl rfl rfl rfl ?_
                 refine AList.move rfl rfl rfl ?_
                 refine AList.move rfl rfl rfl ?_
                 refine AList.lenLs tyOk rfl rfl rfl rfl rfl ?_
                 refine AList.move rfl rfl rfl ?_
                 refine AList.cmpF rfl rfl rfl rfl rfl cmF ?_
                 refine AList.pickF rfl rfl rfl rfl ?_
                 refine AList.nil ?_))
            refine ⟨k + 1, by omega, Wk.mk [(6, some 6), (7, some 7)] rfl rfl rfl ?_ ?_, by omega⟩
            · repeat (first | exact trivial | refine ⟨⟨_, rfl, by first | exact LeA.c (LeC.refl _ rfl) | exact LeA.c (LeC.ow _ _ rfl) | exact LeA.c (LeC.pt _ _ _ _ _ rfl) | exact LeA.c (LeC.nil _ rfl) | exact LeA.c (LeC.nils _ _) | (refine LeA.int ?_; omega) | (refine LeA.int ?_; dsimp only; omega) | exact LeA.c (LeC.fz rfl rfl (by first | rfl | omega) (fun i _ j _ => ⟨rfl, by first | rfl | exact rowN_imm (fun _ => rfl) _ i j | exact rowF_imm (fun _ => rfl) _ i j⟩))⟩, ?_⟩)
            · repeat (first | exact trivial | refine ⟨by first | exact HeapOk.same rfl rfl rfl rfl | exact HeapOk.lent rfl rfl rfl rfl | exact HeapOk.nil rfl rfl | exact HeapOk.row rfl rfl (by first | rfl | omega) (fun i _ j _ => ⟨rfl, by first | rfl | exact rowN_imm (fun _ => rfl) _ i j | exact rowF_imm (fun _ => rfl) _ i j⟩) | exact HeapOk.box rfl rfl (by repeat (first | exact trivial | refine ⟨by first | exact LeC.refl _ rfl | exact LeC.ow _ _ rfl | exact LeC.nil _ rfl | exact LeC.nils _ _ | exact LeC.fz rfl rfl (by first | rfl | omega) (fun i _ j _ => ⟨rfl, by first | rfl | exact rowN_imm (fun _ => rfl) _ i j | exact rowF_imm (fun _ => rfl) _ i j⟩) | exact LeC.int (by omega), ?_⟩)) rfl, ?_⟩)
          · obtain rfl : k = L1.length := by omega
            repeat (first
              | refine AWp.seq ?_
              | refine thenA_n ?_
              | refine AWp.exit ?_
              | refine AWp.ret ?_
              | refine AWp.condF rfl (by first | rfl | exact cmF) ?_
              | (refine AWp.region (id := 10) ?_
                 refine AList.move rfl rfl rfl ?_
                 refine AList.move rfl rfl rfl ?_
                 refine AList.lenLs tyOk rfl rfl rfl rfl rfl ?_
                 refine AList.cmpF rfl rfl rfl rfl rfl cmF ?_
                 refine AList.nil ?_)
              | (refine AWp.region (id := 17) ?_
                 refine AList.move rfl rfl rfl ?_
                 refine AList.assign rfl rfl rfl ?_
                 refine AList.nil ?_))
            refine ⟨_, rfl, mkSt 123 [(2, .c (bC true))] [] [], [], Wk.mk [] rfl rfl rfl ?_ trivial, rfl, rfl, ARets.one (x := .c _) (ARes.tmp rfl rfl)⟩
            repeat (first | exact trivial | refine ⟨⟨_, rfl, by first | exact LeA.c (LeC.refl _ rfl) | exact LeA.c (LeC.ow _ _ rfl) | exact LeA.c (LeC.pt _ _ _ _ _ rfl) | exact LeA.c (LeC.nil _ rfl) | exact LeA.c (LeC.nils _ _) | (refine LeA.int ?_; omega) | (refine LeA.int ?_; dsimp only; omega) | exact LeA.c (LeC.fz rfl rfl (by first | rfl | omega) (fun i _ j _ => ⟨rfl, by first | rfl | exact rowN_imm (fun _ => rfl) _ i j | exact rowF_imm (fun _ => rfl) _ i j⟩))⟩, ?_⟩)
end Go.Proofs.Ytcdnpnbjloaihaa
end

section
/- ProbeDivides: the statement. No condition. -/
namespace Go.Proofs.Ytcdnpnbjloaihaa.probeDivides
open Go.ChangeShapes Go.WideShapes Go.ChangeAt Go.RowKit Go.Flow Go.AV
theorem contract (H : Type) (enc : TypeId × Value → H) (W : World) (base : Nat) (args : Array Value) (ds gs : List (DataW H)) (before : List MemPlace)
    (hval : ∀ (j : Nat) t v, Try.f8.params[j]? = some t → args[j]? = some v → Value.okWide Try.prog W .any base t v)
    (hW : DataW.Whole enc Try.prog Try.f8.params.toList Rows.probeDividesSpec.vars false W args.toList ds gs before)
    (hsz : (DataW.weightsEach Try.prog (Try.f8.params.toList ++ (OpenSpec.ofChange Rows.probeDividesSpec).bare.plain.varTypes Try.prog) (ds ++ gs)).all (· ≤ reachBytes) = true) :
    Calls Try.prog 8 args W fun e W' => ∃ v, e = .returned v ∧ Rows.probeDividesSpec.post enc Try.prog Try.f8 false true false false W args v W' := by
  have hW' := hW
  obtain ⟨p, q, hA0, hV, rfl, hfz, hnd⟩ := hW
  have hA : DataW.TrodAll enc Try.prog W 0 (fun _ => true) true Try.f8.params.toList args.toList ds p := hA0
  have hAk := hA0
  rw [Try.params8] at hA hval hsz
  obtain ⟨rfl, rfl⟩ := trodVars_none hV
  obtain ⟨v0, vs0, d0, ds0, p0, q0, hargs, rfl, rfl, h0, t0⟩ := trodAll_cons hA
  obtain ⟨rfl, rfl, rfl⟩ := trodAll_nil t0
  obtain rfl : args = #[v0] := by rw [← Array.toList_inj]; exact hargs
  have hlt := fun x hx => hW'.lt x hx
  simp only [List.append_nil] at hW'
  rw [List.append_nil] at hsz
  obtain ⟨a0, ok0, r0⟩ := opn_case.argS Try.underlying25 (hval 0 25 v0 rfl rfl) h0 (weigh hsz 0 (t := 25) (d := d0) rfl rfl)
  refine ((ProbeDivides_A a0 ok0) O0 W [_] (fun b h => h.elim) ⟨r0, trivial⟩).mono fun e W' ⟨v, r, he, hr, hv, hE⟩ => ?_
  subst hr
  obtain rfl : v = .bool true := hv.2
  subst he
  exact ⟨_, rfl, post_below (pv := []) hW' (fun _ _ _ => trodAll_cons_mk (shut_bool Try.underlying4 _) trodAll_mk0)
    (fun sp hsp => trodAll_below laidOut hE (by rw [Try.params8]; intro t ht; simp only [List.mem_cons, List.not_mem_nil, or_false] at ht; rcases ht with rfl <;> exact ⟨by kernel_rfl, of_decide_eq_true (by kernel_rfl)⟩) hAk (fun x hx => hlt x (by rw [List.append_nil]; exact hx)) sp (fun x hx => hsp x (by simpa only [List.append_nil] using hx)))
    (fun _ _ => rfl) (by simp) hE (ok_one (by kernel_rfl) rfl (okWide_bool_mk Try.underlying4 _))⟩
theorem own : ownKnob Try.prog.godebug = none := by kernel_rfl
set_option maxRecDepth 100000 in
theorem lifted (os : Os) (started : os.Started) (H : Type) (enc : TypeId × Value → H) :
    ReturnsInHanded {} Try.checked os 8 .any (Rows.probeDividesSpec.pre6 enc Try.prog Try.f8 Rows.probeDividesRow.domain false) (Rows.probeDividesSpec.post enc Try.prog Try.f8 false true false false) := by
  refine returnsInHanded_of_change_sized (C := Try.checked) own started (by kernel_rfl) Try.func8
    (ChangeSpec.witness6 (enc := enc) (C := Try.checked) false ⟨#[], #[.agg #[.slice none 0 0, .slice none 0 0, .int .i64 0, .int .i64 0, .slice none 0 0]], []⟩ 8 (by kernel_rfl) (by kernel_rfl) (by kernel_rfl) (by kernel_rfl)) ?_
  intro W base args ds gs before hval hW _ hsz _
  exact contract H enc W base args ds gs before hval hW hsz
theorem said : Rows.ProbeDividesSaid :=
  OpenClaim.holds_of_wide 8 Try.f8 rfl rfl rfl rfl rfl rfl rfl ⟨rfl, rfl, rfl, rfl, rfl⟩ rfl rfl rfl rfl rfl (by kernel_rfl) Try.func8 (by kernel_rfl)
    (of_decide_eq_true (by kernel_rfl)) (by unfold Func.isWrapper; first | (rw [if_pos (by decide +kernel)]; kernel_rfl) | (rw [if_neg (by decide +kernel)]; exact ⟨rfl, rfl⟩))
    (fun os started H enc _ => lifted os started H enc)
end Go.Proofs.Ytcdnpnbjloaihaa.probeDivides
end
