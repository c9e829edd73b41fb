/- Parts of the proof: PbCap, A33b. -/
import Derived.Test.YtcdnpnbjloaihaaG13
import Derived.Test.YtcdnpnbjloaihaaG21
import Derived.Test.YtcdnpnbjloaihaaG22
set_option linter.unusedSimpArgs false
set_option linter.unusedVariables false
section
/- A block has at most 16 pixels. No condition. -/
namespace Go.Proofs.Ytcdnpnbjloaihaa
open Go.RowKit Go.Flow Go.Plain

theorem cnt_four (a : Nat) : ∀ n : Nat, cnt (fun i => decide (a ≤ i ∧ i < a + 4)) n = max 0 (min ((n : Int) - a) 4)
  | 0 => by rw [cnt_zero]; omega
  | n + 1 => by
    rw [cnt_succ, cnt_four a n]
    by_cases h : a ≤ n ∧ n < a + 4
    · rw [if_pos (by simpa using h)]; omega
    · rw [if_neg (by simpa using h)]; omega
theorem cnt_rows (p : Nat → Bool) (W : Nat) : ∀ H : Nat, cnt p (H * W) = sumTo (fun j => cnt (fun i => p (j * W + i)) W) H
  | 0 => by rw [Nat.zero_mul]; rfl
  | H + 1 => by
    rw [Nat.add_mul, Nat.one_mul, show cnt p (H * W + W) = cnt p (H * W) + cnt (fun i => p (H * W + i)) W from sumTo_split _ _ _, cnt_rows p W H]
    rfl
theorem cnt_inR_row {W : Nat} {a b c d : Int} {t s : Nat} (ha : a = ((4 * t : Nat) : Int)) (hc : c ≤ ((4 * t : Nat) : Int) + 3) (hb : b = ((4 * s : Nat) : Int)) (hd : d ≤ ((4 * s : Nat) : Int) + 3) (j : Nat) :
    cnt (fun i => inR a b c d (((j * W + i : Nat) : Int) % (W : Int)) (((j * W + i : Nat) : Int) / (W : Int))) W ≤ 4 * (if decide (4 * s ≤ j ∧ j < 4 * s + 4) then 1 else 0) := by
  have e : cnt (fun i => inR a b c d (((j * W + i : Nat) : Int) % (W : Int)) (((j * W + i : Nat) : Int) / (W : Int))) W = cnt (fun i => inR a b c d i j) W := cnt_congr fun i hi => by rw [(cell_at hi).1, (cell_at hi).2]
  rw [e]
  by_cases h : 4 * s ≤ j ∧ j < 4 * s + 4
  · rw [if_pos (by simpa using h)]
    have h1 : cnt (fun i => inR a b c d i j) W ≤ cnt (fun i => decide (4 * t ≤ i ∧ i < 4 * t + 4)) W := cnt_mono fun i _ hi => by
      simp only [inR, decide_eq_true_eq] at hi ⊢
      omega
    rw [cnt_four] at h1
    omega
  · rw [if_neg (by simpa using h)]
    have h1 : cnt (fun i => inR a b c d i j) W = 0 := by
      have : cnt (fun i => inR a b c d i j) W = cnt (fun _ => false) W := cnt_congr fun i _ => by
        simp only [inR]
        rw [decide_eq_false]
        omega
      rw [this]
      have : ∀ n : Nat, cnt (fun _ => false) n = 0 := fun n => by
        induction n with
        | zero => rfl
        | succ n ih => rw [cnt_succ, ih]; rfl
      exact this W
    omega
theorem cnt_inR {W H : Nat} {a b c d : Int} {t s : Nat} (ha : a = ((4 * t : Nat) : Int)) (hc : c ≤ ((4 * t : Nat) : Int) + 3) (hb : b = ((4 * s : Nat) : Int)) (hd : d ≤ ((4 * s : Nat) : Int) + 3) :
    cnt (fun k => inR a b c d ((k : Int) % (W : Int)) ((k : Int) / (W : Int))) (H * W) ≤ 16 := by
  rw [cnt_rows]
  have h1 := sumTo_le (f := fun j => cnt (fun i => inR a b c d (((j * W + i : Nat) : Int) % (W : Int)) (((j * W + i : Nat) : Int) / (W : Int))) W) (g := fun j => 4 * (if decide (4 * s ≤ j ∧ j < 4 * s + 4) then 1 else 0)) (n := H)
    (fun j _ => cnt_inR_row ha hc hb hd j)
  have h2 : ∀ n : Nat, sumTo (fun j => 4 * (if decide (4 * s ≤ j ∧ j < 4 * s + 4) then (1 : Int) else 0)) n = 4 * cnt (fun j => decide (4 * s ≤ j ∧ j < 4 * s + 4)) n := fun n => by
    induction n with
    | zero => rfl
    | succ n ih => rw [cnt_succ, show sumTo (fun j => 4 * (if decide (4 * s ≤ j ∧ j < 4 * s + 4) then (1 : Int) else 0)) (n + 1) = sumTo (fun j => 4 * (if decide (4 * s ≤ j ∧ j < 4 * s + 4) then (1 : Int) else 0)) n + 4 * (if decide (4 * s ≤ n ∧ n < 4 * s + 4) then (1 : Int) else 0) from rfl, ih]; omega
  rw [h2, cnt_four] at h1
  omega
theorem cap16 {W H n : Nat} (hn : n = W * H) (f : Nat → Int) (q : Nat) : cnt (unkR W f (rq W H q)) n ≤ 16 := by
  have h := cnt_inR (W := W) (H := H) (a := (rq W H q).1) (b := (rq W H q).2.1) (c := (rq W H q).2.2.1) (d := (rq W H q).2.2.2) (t := q % four W) (s := q / four W) rfl (by simp only [rq, rectq]; omega) rfl (by simp only [rq, rectq]; omega)
  rw [hn, Nat.mul_comm]
  refine Int.le_trans (cnt_mono fun k _ hk => ?_) h
  simp only [unkR, unkB, Bool.and_eq_true] at hk
  exact hk.2
theorem bls_mem {W H n : Nat} {f : Nat → Int} {r : Rc} : ∀ {q : Nat}, r ∈ bls W H n f q → ∃ p, p < q ∧ r = rq W H p ∧ hasU W n f r = true
  | q + 1, h => by
    rw [bls_succ] at h
    rcases List.mem_append.1 h with h | h
    · obtain ⟨p, hp, hr⟩ := bls_mem h
      exact ⟨p, by omega, hr⟩
    · split at h
      · rename_i hh
        obtain rfl : r = rq W H q := by simpa using h
        exact ⟨q, by omega, rfl, hh⟩
      · simp at h
end Go.Proofs.Ytcdnpnbjloaihaa
end

section
/- Chapter 33 over plain values: agree, most, ref33.Next. -/
namespace Go.Proofs.Ytcdnpnbjloaihaa
open Go.RowKit Go.Flow Go.AV Go.Plain
structure Im where
  W : Int
  H : Int
  n : Nat
  f : Nat → Int
structure Bm where
  W : Int
  H : Int
  n : Nat
  d : Nat → Bool
structure Mt where
  dx : Int
  dy : Int
  lo : Int
  bl : Int
abbrev imC (x : Im) : List CV := imgV x.W x.H x.n x.f
abbrev bmC (x : Bm) : List CV := bmpV x.W x.H x.n x.d
abbrev mtC (x : Mt) : List CV := [iC x.dx, iC x.dy, iC x.lo, iC x.bl]
abbrev bmZ : Bm := ⟨0, 0, 0, fun _ => false⟩
abbrev mtZ : Mt := ⟨0, 0, 0, 0⟩
theorem agree_A (W H W' H' : Int) (n m N : Nat) (f g : Nat → Int) (q : Nat → Nat) (hN : N ≤ 1000000) (hn : n ≤ 1000000) (hm : m ≤ 1000000) (hq : ∀ j, j < N → q j < n ∧ q j < m) :
    ACalls Try.prog 51 [.ag (imgV W H n f), .ag (imgV W' H' m g), .c (.ls N 1 (iF fun j => (q j : Int)))] (.c (bC (agreeB N q f g))) :=
  ACalls.old rfl fun O w vals h => by
    obtain ⟨x, y, z, rfl, h1, h2, h3⟩ := args3 h
    obtain ⟨A, c, rfl, -, hA⟩ := rep_img h1
    obtain ⟨B, d, rfl, -, hB⟩ := rep_img h2
    obtain ⟨P, cP, rfl, -, hP⟩ := rep_ints h3
    exact agree_any W H W' H' A B P n m N c d cP f g q w hN hn hm hA hB hP hq
set_option maxRecDepth 100000 in
theorem most_A (M N n : Nat) (ims : Nat → Im) (q : Nat → Nat) (hM : M ≤ 100) (hN : N ≤ 1000000) (hn : n ≤ 1000000) (hi : ∀ i, i < M → (ims i).n = n) (hq : ∀ j, j < N → q j < n) :
    ACalls Try.prog 39 [.c (.ls M 3 (rowN imC ims)), .c (.ls N 1 (iF fun j => (q j : Int)))] (.c (iC (mostN N q (fun i => (ims i).f) M M))) := by
  refine acalls_at Try.func39 rfl rfl Try.ntmps39 rfl ?_
  repeat (first
    | refine AWp.seq ?_
    | refine thenA_n ?_
    | refine AWp.block ?_
    | (refine AWp.region (id := 0) ?_
       refine AList.assign rfl rfl rfl ?_
       refine AList.nil ?_)
    | (refine AWp.region (id := 1) ?_
       refine AList.assign rfl rfl rfl ?_
       refine AList.nil ?_)
    | (refine AWp.region (id := 2) ?_
       refine AList.assign rfl rfl rfl ?_
       refine AList.nil ?_))
  refine AWp.round (fun i : Nat => mkSt 37 [(0, .c (.ls M 3 (rowN imC ims))), (1, .c (.ls N 1 (iF fun j => (q j : Int)))), (5, .c (iC (mostN N q (fun i => (ims i).f) M i))), (6, .c (iC i))] [] [])
    (fun i => i ≤ M) (fun i => M - i) 0 (Nat.zero_le _) ?_ (fun i hi1 => ?_)
  · refine Wk.mk [] rfl rfl rfl ?_ ?_
    · repeat (first | exact trivial | refine ⟨⟨_, rfl, by first | exact LeA.c (LeC.refl _ rfl) | exact LeA.c (LeC.ow _ _ rfl) | exact LeA.c (LeC.pt _ _ _ _ _ rfl) | exact LeA.c (LeC.nil _ rfl) | exact LeA.c (LeC.nils _ _) | (refine LeA.int ?_; omega) | (refine LeA.int ?_; dsimp only; omega) | exact LeA.c (LeC.fz rfl rfl (by first | rfl | omega) (fun i _ j _ => ⟨rfl, by first | rfl | exact rowN_imm (fun _ => rfl) _ i j | exact rowF_imm (fun _ => rfl) _ i j⟩))⟩, ?_⟩)
    · exact trivial
  · by_cases hlt : i < M
    · repeat (first
        | refine AWp.seq ?_
        | refine thenA_n ?_
        | refine AWp.block ?_
        | refine AWp.skip ?_
        | refine AWp.condT rfl (by first | rfl | exact cmT) ?_
        | (refine AWp.region (id := 3) ?_
           refine AList.move rfl rfl rfl ?_
           refine AList.move rfl rfl rfl ?_
           refine AList.lenLs tyOk rfl rfl rfl rfl rfl ?_
           refine AList.cmpT rfl rfl rfl rfl rfl cmT ?_
           refine AList.nil ?_)
        | (refine AWp.region (id := 5) ?_
           refine AList.assign rfl rfl rfl ?_
           refine AList.nil ?_)
        | (refine AWp.region (id := 6) ?_
           refine AList.assign rfl rfl rfl ?_
           refine AList.nil ?_))
      refine AWp.round (fun k : Nat => mkSt 37 [(0, .c (.ls M 3 (rowN imC ims))), (1, .c (.ls N 1 (iF fun j => (q j : Int)))), (5, .c (iC (mostN N q (fun i => (ims i).f) M i))), (6, .c (iC i)), (7, .c (iC (sameN N q (fun i => (ims i).f) i k))), (8, .c (iC k))] [] [])
        (fun k => k ≤ M) (fun k => M - k) 0 (Nat.zero_le _) ?_ (fun k hk1 => ?_)
      · refine Wk.mk [] rfl rfl rfl ?_ ?_
        · repeat (first | exact trivial | refine ⟨⟨_, rfl, by first | exact LeA.c (LeC.refl _ rfl) | exact LeA.c (LeC.ow _ _ rfl) | exact LeA.c (LeC.pt _ _ _ _ _ rfl) | exact LeA.c (LeC.nil _ rfl) | exact LeA.c (LeC.nils _ _) | (refine LeA.int ?_; omega) | (refine LeA.int ?_; dsimp only; omega) | exact LeA.c (LeC.fz rfl rfl (by first | rfl | omega) (fun i _ j _ => ⟨rfl, by first | rfl | exact rowN_imm (fun _ => rfl) _ i j | exact rowF_imm (fun _ => rfl) _ i j⟩))⟩, ?_⟩)
        · exact trivial
      · have hs := sameN_le N q (fun i => (ims i).f) i k
        by_cases hltk : k < M
        · have hag := agree_A (ims i).W (ims i).H (ims k).W (ims k).H (ims i).n (ims k).n N (ims i).f (ims k).f q hN (by have := hi i hlt; omega) (by have := hi k hltk; omega) (fun j hj => by have := hi i hlt; have := hi k hltk; have := hq j hj; omega)
          cases hb : agreeB N q (ims i).f (ims k).f with
          | true =>
            rw [hb] at hag
            repeat (first
              | refine AWp.seq ?_
              | refine thenA_n ?_
              | refine AWp.block ?_
              | refine AWp.skip ?_
              | refine inBlk_n ?_
              | refine AWp.condT rfl (by first | rfl | exact cmT) ?_
              | (refine AWp.region (id := 7) ?_
                 refine AList.move rfl rfl rfl ?_
                 refine AList.move rfl rfl rfl ?_
                 refine AList.lenLs tyOk rfl rfl rfl rfl rfl ?_
                 refine AList.cmpT rfl rfl rfl rfl rfl cmT ?_
                 refine AList.nil ?_)
              | (refine AWp.region (id := 8) ?_
                 refine AList.move rfl rfl rfl ?_
                 refine AList.add rfl rfl rfl rfl (by omega) (by omega) ?_
                 refine AList.assign rfl rfl rfl ?_
                 refine AList.nil ?_)
              | (refine AWp.draw (id := 9) mixed ?_
                 refine AList.move rfl rfl rfl ?_
                 refine AList.move rfl rfl rfl ?_
                 refine AList.idx tyOk rfl rfl rfl rfl rfl rfl rfl rfl rfl oM oM ?_
                 refine AList.loadAl tyOk rfl rfl rfl rfl rfl oM ?_
                 refine AList.move rfl rfl rfl ?_
                 refine AList.move rfl rfl rfl ?_
                 refine AList.idx tyOk rfl rfl rfl rfl rfl rfl rfl rfl rfl oM oM ?_
                 refine AList.loadAl tyOk rfl rfl rfl rfl rfl oM ?_
                 refine AList.move rfl rfl rfl ?_
                 refine AList.call rfl rfl rfl rfl Try.func51 rfl (by kernel_rfl) (hag) ?_
                 refine AList.nil ⟨by kernel_rfl, ?_⟩)
              | (refine AWp.region (id := 10) ?_
                 refine AList.move rfl rfl rfl ?_
                 refine AList.add rfl rfl rfl rfl (by omega) (by omega) ?_
                 refine AList.assign rfl rfl rfl ?_
                 refine AList.nil ?_))
            refine ⟨k + 1, by omega, Wk.mk [] rfl rfl rfl ?_ ?_, by omega⟩
            · have e : sameN N q (fun i => (ims i).f) i (k + 1) = sameN N q (fun i => (ims i).f) i k + 1 := by simp only [sameN, hb, if_pos]
              repeat (first | exact trivial | refine ⟨⟨_, rfl, by first | exact LeA.c (LeC.refl _ rfl) | exact LeA.c (LeC.ow _ _ rfl) | exact LeA.c (LeC.pt _ _ _ _ _ rfl) | exact LeA.c (LeC.nil _ rfl) | exact LeA.c (LeC.nils _ _) | (refine LeA.int ?_; omega) | (refine LeA.int ?_; dsimp only; omega) | exact LeA.c (LeC.fz rfl rfl (by first | rfl | omega) (fun i _ j _ => ⟨rfl, by first | rfl | exact rowN_imm (fun _ => rfl) _ i j | exact rowF_imm (fun _ => rfl) _ i j⟩))⟩, ?_⟩)
            · exact trivial
          | false =>
            rw [hb] at hag
            repeat (first
              | refine AWp.seq ?_
              | refine thenA_n ?_
              | refine AWp.block ?_
              | refine AWp.skip ?_
              | refine inBlk_n ?_
              | refine AWp.condT rfl (by first | rfl | exact cmT) ?_
              | refine AWp.condF rfl (by first | rfl | exact cmF) ?_
              | (refine AWp.region (id := 7) ?_
                 refine AList.move rfl rfl rfl ?_
                 refine AList.move rfl rfl rfl ?_
                 refine AList.lenLs tyOk rfl rfl rfl rfl rfl ?_
                 refine AList.cmpT rfl rfl rfl rfl rfl cmT ?_
                 refine AList.nil ?_)
              | (refine AWp.region (id := 8) ?_
                 refine AList.move rfl rfl rfl ?_
                 refine AList.add rfl rfl rfl rfl (by omega) (by omega) ?_
                 refine AList.assign rfl rfl rfl ?_
                 refine AList.nil ?_)
              | (refine AWp.draw (id := 9) mixed ?_
                 refine AList.move rfl rfl rfl ?_
                 refine AList.move rfl rfl rfl ?_
                 refine AList.idx tyOk rfl rfl rfl rfl rfl rfl rfl rfl rfl oM oM ?_
                 refine AList.loadAl tyOk rfl rfl rfl rfl rfl oM ?_
                 refine AList.move rfl rfl rfl ?_
                 refine AList.move rfl rfl rfl ?_
                 refine AList.idx tyOk rfl rfl rfl rfl rfl rfl rfl rfl rfl oM oM ?_
                 refine AList.loadAl tyOk rfl rfl rfl rfl rfl oM ?_
                 refine AList.move rfl rfl rfl ?_
                 refine AList.call rfl rfl rfl rfl Try.func51 rfl (by kernel_rfl) (hag) ?_
                 refine AList.nil ⟨by kernel_rfl, ?_⟩))
            refine ⟨k + 1, by omega, Wk.mk [] rfl rfl rfl ?_ ?_, by omega⟩
            · have e : sameN N q (fun i => (ims i).f) i (k + 1) = sameN N q (fun i => (ims i).f) i k := by simp only [sameN, hb]; rfl
              repeat (first | exact trivial | refine ⟨⟨_, rfl, by first | exact LeA.c (LeC.refl _ rfl) | exact LeA.c (LeC.ow _ _ rfl) | exact LeA.c (LeC.pt _ _ _ _ _ rfl) | exact LeA.c (LeC.nil _ rfl) | exact LeA.c (LeC.nils _ _) | (refine LeA.int ?_; omega) | (refine LeA.int ?_; dsimp only; omega) | exact LeA.c (LeC.fz rfl rfl (by first | rfl | omega) (fun i _ j _ => ⟨rfl, by first | rfl | exact rowN_imm (fun _ => rfl) _ i j | exact rowF_imm (fun _ => rfl) _ i j⟩))⟩, ?_⟩)
            · exact trivial
        · obtain rfl : k = M := by omega
          repeat (first
            | refine AWp.seq ?_
            | refine thenA_n ?_
            | refine AWp.exit ?_
            | refine thenA_e ?_
            | refine inBlk_n ?_
            | refine inBlk_hit ?_
            | refine AWp.condF rfl (by first | rfl | exact cmF) ?_
            | (refine AWp.region (id := 4) ?_
               refine AList.move rfl rfl rfl ?_
               refine AList.add rfl rfl rfl rfl (by omega) (by omega) ?_
               refine AList.assign rfl rfl rfl ?_
               refine AList.nil ?_)
            | (refine AWp.region (id := 7) ?_
               refine AList.move rfl rfl rfl ?_
               refine AList.move rfl rfl rfl ?_
               refine AList.lenLs tyOk rfl rfl rfl rfl rfl ?_
               refine AList.cmpF rfl rfl rfl rfl rfl cmF ?_
               refine AList.nil ?_)
            | (refine AWp.region (id := 11) ?_
               refine AList.move rfl rfl rfl ?_
               refine AList.move rfl rfl rfl ?_
               refine AList.maxI rfl rfl rfl rfl ?_
               refine AList.assign rfl rfl rfl ?_
               refine AList.nil ?_))
          refine ⟨i + 1, by omega, Wk.mk [] rfl rfl rfl ?_ ?_, by omega⟩
          · have e : mostN N q (fun i => (ims i).f) k (i + 1) = max (mostN N q (fun i => (ims i).f) k i) (sameN N q (fun i => (ims i).f) i k) := rfl
            repeat (first | exact trivial | refine ⟨⟨_, rfl, by first | exact LeA.c (LeC.refl _ rfl) | exact LeA.c (LeC.ow _ _ rfl) | exact LeA.c (LeC.pt _ _ _ _ _ rfl) | exact LeA.c (LeC.nil _ rfl) | exact LeA.c (LeC.nils _ _) | (refine LeA.int ?_; omega) | (refine LeA.int ?_; dsimp only; omega) | exact LeA.c (LeC.fz rfl rfl (by first | rfl | omega) (fun i _ j _ => ⟨rfl, by first | rfl | exact rowN_imm (fun _ => rfl) _ i j | exact rowF_imm (fun _ => rfl) _ i j⟩))⟩, ?_⟩)
          · exact trivial
    · obtain rfl : i = M := by omega
      repeat (first
        | refine AWp.seq ?_
        | refine thenA_n ?_
        | refine AWp.exit ?_
        | refine AWp.ret ?_
        | refine AWp.condF rfl (by first | rfl | exact cmF) ?_
        | (refine AWp.region (id := 3) ?_
           refine AList.move rfl rfl rfl ?_
           refine AList.move rfl rfl rfl ?_
           refine AList.lenLs tyOk rfl rfl rfl rfl rfl ?_
           refine AList.cmpF rfl rfl rfl rfl rfl cmF ?_
           refine AList.nil ?_)
        | (refine AWp.region (id := 12) ?_
           refine AList.move rfl rfl rfl ?_
           refine AList.assign rfl rfl rfl ?_
           refine AList.nil ?_))
      refine ⟨mkSt 37 [(4, .c (iC (mostN N q (fun i => (ims i).f) i i)))] [] [], [], Wk.mk [] rfl rfl rfl ?_ ?_, rfl, rfl, ARets.one (x := .c _) (ARes.tmp rfl rfl)⟩
      · repeat (first | exact trivial | refine ⟨⟨_, rfl, by first | exact LeA.c (LeC.refl _ rfl) | exact LeA.c (LeC.ow _ _ rfl) | exact LeA.c (LeC.pt _ _ _ _ _ rfl) | exact LeA.c (LeC.nil _ rfl) | exact LeA.c (LeC.nils _ _) | (refine LeA.int ?_; omega) | (refine LeA.int ?_; dsimp only; omega) | exact LeA.c (LeC.fz rfl rfl (by first | rfl | omega) (fun i _ j _ => ⟨rfl, by first | rfl | exact rowN_imm (fun _ => rfl) _ i j | exact rowF_imm (fun _ => rfl) _ i j⟩))⟩, ?_⟩)
      · exact trivial
end Go.Proofs.Ytcdnpnbjloaihaa
end
