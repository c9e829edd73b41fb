/- Parts of the proof: ACut, A25s, A25u. -/
import Derived.Test.YtekkldgmjdllbaaG08
import Derived.Test.YtekkldgmjdllbaaG36
set_option linter.unusedSimpArgs false
set_option linter.unusedVariables false
section
namespace Go.AV
open Go Go.RowKit Go.Flow
theorem AWp.cut {P : Program} {x : Code} {Q : Exit → St → Prop} {S : St} (S1 : St) (h : AWp P x (fun e S' => e = .normal ∧ Wk S' S1) S) (hz : ∀ S', Wk S' S1 → Q .normal S') : AWp P x Q S :=
 h.mono fun e S' h => by obtain ⟨rfl, hw⟩ := h; exact hz S' hw
end Go.AV
end
section
namespace Go.Proofs.Ytekkldgmjdllbaa
open Go.RowKit Go.Flow Go.AV Go.Plain
theorem zz_lt {n : Int} (hn : -9223372036854775808 ≤ n ∧ n ≤ 9223372036854775807) : zz n < 18446744073709551616 := by
 by_cases h : n < 0
 ·exact (zz_neg hn.1 h).1
 ·exact (zz_nn hn.2 h).1
theorem u8_of {k : Nat} (h : k < 256) : (UInt8.ofNat k).toNat = k := by
 rw [UInt8.toNat_ofNat']
 exact Nat.mod_eq_of_lt h
abbrev wC (c : Nat) : CV := .p (.int .u64 (c : Nat))
set_option maxHeartbeats 2000000 in
set_option maxRecDepth 100000 in
theorem pInt_A (n : Int) (hn : -9223372036854775808 ≤ n ∧ n ≤ 9223372036854775807) : ACalls Try.prog 67 [.c (iC n)] (.c (byV (inB n))) := by
 have hz := zz_lt hn
 obtain ⟨r, hr9, hrl, hrc⟩ := vz_ex (zz n) hz
 have hv := vz_at hr9 hrl hrc
 obtain ⟨c, hc⟩ : ∃ c, zz n = c := ⟨_, rfl⟩
 obtain ⟨c0, h7, h11, h0c⟩ : ∃ c0 : Nat, IntKind.u64.wrap (IntKind.u64.wrap n * 2 ^ 1) = (c0 : Int) ∧ (n < 0 → c0 < 18446744073709551616 ∧ 18446744073709551615 - c0 = c) ∧ (¬ n < 0 → c0 = c) := by
  by_cases h : n < 0
  ·obtain ⟨a1, a2, a3⟩ := zz_neg hn.1 h
   exact ⟨_, a2, fun _ => ⟨by omega, by rw [a3, hc]⟩, fun h' => absurd h h'⟩
  ·obtain ⟨a1, a2⟩ := zz_nn hn.2 h
   exact ⟨_, a2, fun h' => absurd h' h, fun _ => hc⟩
 rw [hc] at hz hrl hrc hv
 rw [show inB n = vz c by unfold inB; rw [hc], hv]
 refine acalls_at Try.func67 rfl rfl Try.ntmps67 rfl ?_
 repeat (first
  | refine uA ?_
  | refine uB ?_
  | (refine rG 0 ?_
     refine kC ?_
     refine aB ?_)
  | (refine rG 1 ?_
     refine kA ?_
     refine AList.convI (rfl) (by kernel_rfl) Try.underlying171 rfl rfl rfl ?_
     refine AList.bin rfl rfl rfl rfl rfl (shl_run (n := 1) (by decide) h7) rfl ?_
     refine kC ?_
     refine aB ?_)
  | (refine rG 2 ?_
     refine kA ?_
     refine qr5 aW ?_
     refine aB ?_))
 refine AWp.cut (mkSt 24 [(3, .c (wC c))] [] []) ?_ (fun S2 hw2 => AWp.weak hw2 ?_)
 ·by_cases h : n < 0
  ·obtain ⟨g1, g2⟩ := h11 h
   have g3 := not_run64 (P := Try.prog) g1
   rw [g2] at g3
   have hb : cmpP .lss n 0 = true := decide_eq_true h
   repeat (first
    | refine kT ?_
    | (refine rG 3 ?_
       refine kA ?_
       refine AList.un rfl rfl rfl (g3) rfl ?_
       refine kC ?_
       refine aB ?_))
   refine ⟨rfl, Wk.mk [] rfl rfl rfl ?_ trivial⟩
   exact allT
  ·obtain rfl := h0c h
   have hb : cmpP .lss n 0 = false := decide_eq_false h
   repeat (first
    | refine uG ?_
    | refine kU ?_)
   refine ⟨rfl, Wk.mk [] rfl rfl rfl ?_ trivial⟩
   exact allT
 clear hw2 S2
 have hm : ∀ k, k < r + 1 → c / 128 ^ k < 18446744073709551616 := fun k _ => Nat.lt_of_le_of_lt (Nat.div_le_self _ _) hz
 have hst : ∀ k, k < r → IntKind.u8.wrap ((c / 128 ^ k : Nat) : Int) = ((c / 128 ^ k % 256 : Nat) : Int) := fun k _ => by rw [IntKind.wrap_u8]; omega
 have hsh : ∀ k, ((c / 128 ^ k : Nat) : Int) / 2 ^ 7 = ((c / 128 ^ (k + 1) : Nat) : Int) := fun k => by
  rw [Nat.pow_succ, ← Nat.div_div_eq_div_mul]
  omega
 repeat (first
  | refine uA ?_
  | refine uC ?_
  | (refine rG 4 ?_
     refine qr5 (aM tyOk) ?_
     refine aB ?_))
 refine AWp.round (fun i : Nat => match i with
  | 0 =>
    mkSt 24 [(3, .c (wC (c / 128 ^ (0)))), (4, .c (.pt 4 2 0 0))] [(4, sbZ) ] [4 ]
  | i + 1 =>
    mkSt 24 [(3, .c (wC (c / 128 ^ ((i + 1))))), (4, .c (.pt 4 2 0 0))] [(4, sbB (.pt 4 2 0 0) (.ow 30)) , (30, byB (vzP c (i + 1)))] [4 , 30]
  ) (fun i => i ≤ r) (fun i => r - i) 0 (Nat.zero_le _) ?_ (fun i hi => ?_)
 ·refine Wk.mk [(4, some 4)] rfl rfl rfl ?_ ?_
  ·rw [Nat.pow_zero, Nat.div_one]
   exact allT
  ·exact ⟨HeapOk.box rfl rfl ⟨LeC.refl _ rfl, LeC.refl _ rfl, trivial⟩ rfl, trivial⟩
 have hmi := hm i (by omega)
 have hsi := hsh i
 by_cases hir : i < r
 ·have h128 := hrl i hir
  have hti := hst i hir
  have hP : vzP c (i + 1) = vzP c i ++ [UInt8.ofNat (c / 128 ^ i % 128 + 128)] := rfl
  have hl := vzP_len c i
  generalize hx : c / 128 ^ i = x at *
  have h128' : (128 : Int) ≤ (x : Nat) := by omega
  have ho := or_run8 (P := Try.prog) (t := 5) (show x % 256 < 256 by omega) (show 128 < 256 by omega) (or128 x)
  have hsr := shr_run (P := Try.prog) (t := 171) (k := .u64) (ky := .u64) (n := 7) (by decide) hsi
  cases i with
  | zero =>
    show AWp _ _ _ (
     mkSt 24 [(3, .c (wC (c / 128 ^ (0)))), (4, .c (.pt 4 2 0 0))] [(4, sbZ) ] [4 ]
     )
    rw [show c / 128 ^ 0 = x from hx]
    have cw := wbyte0_M (x % 128 + 128) _ (u8_of (show x % 128 + 128 < 256 by omega))
    repeat (first
     | refine uA ?_
     | refine uB ?_
     | refine uC ?_
     | refine uG ?_
     | refine uD ?_
     | refine kT ?_
     | (refine rG 5 ?_
        refine kA ?_
        refine qr5t aK ?_
        refine aB ?_)
     | (refine rG 6 ?_
        refine kA ?_
        refine AList.bin rfl rfl rfl rfl rfl (hsr) rfl ?_
        refine kC ?_
        refine aB ?_)
     | (refine rG 7 ?_
        refine kA ?_
        refine AList.convI (hti) (by kernel_rfl) Try.underlying5 rfl rfl rfl ?_
        refine AList.bin rfl rfl rfl rfl rfl (ho) rfl ?_
        refine AList.callM [4] [] [40] [sbZ] [] [sbB (.pt 1000 2 0 0) (.ow 900)] [byB ([UInt8.ofNat (x % 128 + 128)])] [sbB (.pt 4 2 0 0) (.ow 40)] [byB ([UInt8.ofNat (x % 128 + 128)])] rfl rfl FnV.func rfl Try.func118 rfl (by kernel_rfl) (sb_lend rfl (.b (.imm _ rfl)) (.b (.imm _ rfl)) trivial) (trivial) rfl (by exact ⟨sb_arg, p_arg, trivial⟩) (.c (.imm _ rfl)) (sb_back (.b (.pt 0 4 2 0 0 rfl)) (.b (.owN 0 40 rfl)) trivial) (by_new) (cw) ?_
        refine aB ?_))
    refine ⟨0 + 1, hir, Wk.mk [(4, some 4), (30, some 40)] rfl rfl rfl ?_ ?_, by omega⟩
    ·exact allT
    ·rw [hP]
     exact ⟨HeapOk.box rfl rfl ⟨LeC.pt _ _ _ _ _ rfl, LeC.ow _ _ rfl, trivial⟩ rfl, HeapOk.row rfl rfl rfl (fun _ _ _ _ => ⟨rfl, rfl⟩), trivial⟩
  | succ i =>
    have cw := wbyte1_M (vzP c (i + 1)) (x % 128 + 128) _ (u8_of (show x % 128 + 128 < 256 by omega)) (by omega) (by omega)
    show AWp _ _ _ (
     mkSt 24 [(3, .c (wC (c / 128 ^ (i + 1)))), (4, .c (.pt 4 2 0 0))] [(4, sbB (.pt 4 2 0 0) (.ow 30)) , (30, byB (vzP c (i + 1)))] [4 , 30]
     )
    rw [show c / 128 ^ (i + 1) = x from hx]
    repeat (first
     | refine uA ?_
     | refine uB ?_
     | refine uC ?_
     | refine uG ?_
     | refine uD ?_
     | refine kT ?_
     | (refine rG 5 ?_
        refine kA ?_
        refine qr5t aK ?_
        refine aB ?_)
     | (refine rG 6 ?_
        refine kA ?_
        refine AList.bin rfl rfl rfl rfl rfl (hsr) rfl ?_
        refine kC ?_
        refine aB ?_)
     | (refine rG 7 ?_
        refine kA ?_
        refine AList.convI (hti) (by kernel_rfl) Try.underlying5 rfl rfl rfl ?_
        refine AList.bin rfl rfl rfl rfl rfl (ho) rfl ?_
        refine AList.callM [4] [30] [40] [sbB (.pt 1000 2 0 0) (.ow 800)] [byB (vzP c (i + 1))] [sbB (.pt 1000 2 0 0) (.ow 900)] [byB (vzP c (i + 1) ++ [UInt8.ofNat (x % 128 + 128)])] [sbB (.pt 4 2 0 0) (.ow 40)] [byB (vzP c (i + 1) ++ [UInt8.ofNat (x % 128 + 128)])] rfl rfl FnV.func rfl Try.func118 rfl (by kernel_rfl) (sb_lend rfl (.b (.pt 4 0 2 0 0 rfl)) (.b (.mv 30 0 rfl)) trivial) (by_mov rfl) rfl (by exact ⟨sb_arg, p_arg, trivial⟩) (.c (.imm _ rfl)) (sb_back (.b (.pt 0 4 2 0 0 rfl)) (.b (.owN 0 40 rfl)) trivial) (by_new) (cw) ?_
        refine aB ?_))
    refine ⟨i + 1 + 1, hir, Wk.mk [(4, some 4), (30, some 40)] rfl rfl rfl ?_ ?_, by omega⟩
    ·exact allT
    ·rw [hP]
     exact ⟨HeapOk.box rfl rfl ⟨LeC.pt _ _ _ _ _ rfl, LeC.ow _ _ rfl, trivial⟩ rfl, HeapOk.row rfl rfl rfl (fun _ _ _ _ => ⟨rfl, rfl⟩), trivial⟩
 obtain rfl : i = r := by omega
 have hl := vzP_len c i
 have htu : IntKind.u8.wrap ((c / 128 ^ i : Nat) : Int) = ((c / 128 ^ i % 256 : Nat) : Int) := by rw [IntKind.wrap_u8]; omega
 generalize hx : c / 128 ^ i = x at *
 have h128' : ¬ (128 : Int) ≤ (x : Nat) := by omega
 have hpos : 0 < (vzP c i ++ [UInt8.ofNat (x % 256)]).length := by rw [List.length_append]; exact Nat.succ_pos _
 cases i with
 | zero =>
   show AWp _ _ _ (
    mkSt 24 [(3, .c (wC (c / 128 ^ (0)))), (4, .c (.pt 4 2 0 0))] [(4, sbZ) ] [4 ]
    )
   rw [show c / 128 ^ 0 = x from hx]
   have cw := wbyte0_M (x % 256) _ (u8_of (show x % 256 < 256 by omega))
   repeat (first
    | refine uA ?_
    | refine uB ?_
    | refine uH ?_
    | refine AWp.ret ?_
    | refine kU ?_
    | (refine rG 5 ?_
       refine kA ?_
       refine qr5f aJ ?_
       refine aB ?_)
    | (refine rG 8 ?_
       refine kA ?_
       refine AList.convI (htu) (by kernel_rfl) Try.underlying5 rfl rfl rfl ?_
       refine AList.callM [4] [] [40] [sbZ] [] [sbB (.pt 1000 2 0 0) (.ow 900)] [byB ([UInt8.ofNat (x % 256)])] [sbB (.pt 4 2 0 0) (.ow 40)] [byB ([UInt8.ofNat (x % 256)])] rfl rfl FnV.func rfl Try.func118 rfl (by kernel_rfl) (sb_lend rfl (.b (.imm _ rfl)) (.b (.imm _ rfl)) trivial) (trivial) rfl (by exact ⟨sb_arg, p_arg, trivial⟩) (.c (.imm _ rfl)) (sb_back (.b (.pt 0 4 2 0 0 rfl)) (.b (.owN 0 40 rfl)) trivial) (by_new) (cw) ?_
       refine aB ?_)
    | (refine rG 9 ?_
       refine AList.callM [4] [40] [] [sbB (.pt 1000 2 0 0) (.ow 800)] [byB ([UInt8.ofNat (x % 256)])] [sbB (.pt 1000 2 0 0) .any] [] [sbB (.pt 4 2 0 0) .any] [] rfl rfl FnV.func rfl Try.func69 rfl (by kernel_rfl) (sb_lend rfl (.b (.pt 4 0 2 0 0 rfl)) (.b (.mv 40 0 rfl)) trivial) (by_mov rfl) rfl (by exact ⟨sb_arg, trivial⟩) (.c (.imm _ rfl)) (sb_back (.b (.pt 0 4 2 0 0 rfl)) (.b (.any _)) trivial) (trivial) (sstr_M ([UInt8.ofNat (x % 256)]) (Nat.one_pos)) ?_
       refine kC ?_
       refine aB ?_))
   refine ⟨mkSt 24 [(2, .c (byV [UInt8.ofNat (x % 256)]))] [] [], [], Wk.mk [] rfl rfl rfl ?_ trivial, rfl, rfl, aR1⟩
   exact allT
 | succ i =>
   have cw := wbyte1_M (vzP c (i + 1)) (x % 256) _ (u8_of (show x % 256 < 256 by omega)) (by omega) (by omega)
   show AWp _ _ _ (
    mkSt 24 [(3, .c (wC (c / 128 ^ (i + 1)))), (4, .c (.pt 4 2 0 0))] [(4, sbB (.pt 4 2 0 0) (.ow 30)) , (30, byB (vzP c (i + 1)))] [4 , 30]
    )
   rw [show c / 128 ^ (i + 1) = x from hx]
   repeat (first
    | refine uA ?_
    | refine uB ?_
    | refine uH ?_
    | refine AWp.ret ?_
    | refine kU ?_
    | (refine rG 5 ?_
       refine kA ?_
       refine qr5f aJ ?_
       refine aB ?_)
    | (refine rG 8 ?_
       refine kA ?_
       refine AList.convI (htu) (by kernel_rfl) Try.underlying5 rfl rfl rfl ?_
       refine AList.callM [4] [30] [40] [sbB (.pt 1000 2 0 0) (.ow 800)] [byB (vzP c (i + 1))] [sbB (.pt 1000 2 0 0) (.ow 900)] [byB (vzP c (i + 1) ++ [UInt8.ofNat (x % 256)])] [sbB (.pt 4 2 0 0) (.ow 40)] [byB (vzP c (i + 1) ++ [UInt8.ofNat (x % 256)])] rfl rfl FnV.func rfl Try.func118 rfl (by kernel_rfl) (sb_lend rfl (.b (.pt 4 0 2 0 0 rfl)) (.b (.mv 30 0 rfl)) trivial) (by_mov rfl) rfl (by exact ⟨sb_arg, p_arg, trivial⟩) (.c (.imm _ rfl)) (sb_back (.b (.pt 0 4 2 0 0 rfl)) (.b (.owN 0 40 rfl)) trivial) (by_new) (cw) ?_
       refine aB ?_)
    | (refine rG 9 ?_
       refine AList.callM [4] [40] [] [sbB (.pt 1000 2 0 0) (.ow 800)] [byB (vzP c (i + 1) ++ [UInt8.ofNat (x % 256)])] [sbB (.pt 1000 2 0 0) .any] [] [sbB (.pt 4 2 0 0) .any] [] rfl rfl FnV.func rfl Try.func69 rfl (by kernel_rfl) (sb_lend rfl (.b (.pt 4 0 2 0 0 rfl)) (.b (.mv 40 0 rfl)) trivial) (by_mov rfl) rfl (by exact ⟨sb_arg, trivial⟩) (.c (.imm _ rfl)) (sb_back (.b (.pt 0 4 2 0 0 rfl)) (.b (.any _)) trivial) (trivial) (sstr_M (vzP c (i + 1) ++ [UInt8.ofNat (x % 256)]) (hpos)) ?_
       refine kC ?_
       refine aB ?_))
   refine ⟨mkSt 24 [(2, .c (byV (vzP c (i + 1) ++ [UInt8.ofNat (x % 256)])))] [] [], [], Wk.mk [] rfl rfl rfl ?_ trivial, rfl, rfl, aR1⟩
   exact allT
abbrev iOk (v : Int) : Prop := -9223372036854775808 ≤ v ∧ v ≤ 9223372036854775807
def lOk (l : List Int) : Prop := l.length ≤ 1000000 ∧ ∀ k, k < l.length → iOk (l.getD k 0)
def insP (l : List Int) (k : Nat) : List UInt8 := inB l.length ++ (l.take k).flatMap inB
theorem insP_zero (l : List Int) : insP l 0 = inB l.length := by unfold insP; simp
theorem insP_succ (l : List Int) {k : Nat} (hk : k < l.length) : insP l (k + 1) = insP l k ++ inB (l.getD k 0) := by
 unfold insP
 rw [take_snoc hk, List.flatMap_append, List.append_assoc]
 simp
theorem insP_all (l : List Int) : insP l l.length = insB l := by unfold insP insB; rw [List.take_length]
theorem insP_len (l : List Int) (k : Nat) : 0 < (insP l k).length ∧ (insP l k).length ≤ 11 + 11 * l.length := by
 unfold insP
 rw [List.length_append]
 have h1 := inB_pos (l.length : Int)
 have h2 := inB_le (l.length : Int)
 have h3 := flat_len (l.take k)
 have h4 : (l.take k).length ≤ l.length := by rw [List.length_take]; omega
 omega
abbrev intF (C : Nat → CV) : CV := .fn 67 0 C
set_option maxHeartbeats 2000000 in
set_option maxRecDepth 100000 in
theorem plist_A (l : List Int) (C : Nat → CV) (hl : lOk l) : ACalls Try.prog 119 [.c (liV l), .c (intF C)] (.c (byV (insB l))) := by
 have hl1 := hl.1
 have hl0 := inB_le (l.length : Int)
 have hn := pInt_A l.length (by omega)
 have hw0 := wstr0_M (inB l.length) (by omega)
 refine acalls_at Try.func119 rfl rfl Try.ntmps119 rfl ?_
 repeat (first
  | refine uA ?_
  | (refine rG 0 ?_
     refine kC ?_
     refine aB ?_)
  | (refine rG 1 ?_
     refine qr5 (aM tyOk) ?_
     refine aB ?_))
 refine AWp.weak (S' := mkSt 24 [(0, .c (liV l)), (1, .c (intF fun _ => .any)), (5, .c (.pt 5 2 0 0))] [(5, sbZ)] [5]) (Wk.mk [(5, some 5)] rfl rfl rfl ?_ ?_) ?_
 ·exact allF
 ·exact ⟨HeapOk.box rfl rfl ⟨LeC.refl _ rfl, LeC.refl _ rfl, trivial⟩ rfl, trivial⟩
 repeat (first
  | refine uA ?_
  | refine uB ?_
  | refine uC ?_
  | (refine rG 2 ?_
     refine kA ?_
     refine qr5 (aO tyOk) ?_
     refine aH rfl rfl rfl rfl Try.func67 rfl (by kernel_rfl) (hn) ?_
     refine AList.callM [5] [] [40] [sbZ] [] [sbB (.pt 1000 2 0 0) (.ow 900)] [byB (inB l.length)] [sbB (.pt 5 2 0 0) (.ow 40)] [byB (inB l.length)] rfl rfl FnV.func rfl Try.func66 rfl (by kernel_rfl) (sb_lend rfl (.b (.imm _ rfl)) (.b (.imm _ rfl)) trivial) (trivial) rfl (by exact ⟨sb_arg, p_arg, trivial⟩) (tu2_back) (sb_back (.b (.pt 0 5 2 0 0 rfl)) (.b (.owN 0 40 rfl)) trivial) (by_new) (hw0) ?_
     refine aB ?_)
  | (refine rG 3 ?_
     refine kA ?_
     refine qr5 (aO tyOk) ?_
     refine kA ?_
     refine aB ?_))
 refine AWp.round (fun k : Nat => mkSt 24 [(1, .c (intF fun _ => .any)), (5, .c (.pt 5 2 0 0)), (12, .c (liV l)), (13, .c (iC l.length)), (14, .c (iC k))] [(5, sbB (.pt 5 2 0 0) (.ow 30)), (30, byB (insP l k))] [5, 30])
  (fun k => k ≤ l.length) (fun k => l.length - k) 0 (Nat.zero_le _) ?_ (fun k hk => ?_)
 ·refine Wk.mk [(5, some 5), (30, some 40)] rfl rfl rfl ?_ ?_
  ·exact allF
  ·rw [insP_zero]
   exact ⟨HeapOk.box rfl rfl ⟨LeC.pt _ _ _ _ _ rfl, LeC.ow _ _ rfl, trivial⟩ rfl, HeapOk.row rfl rfl rfl (fun _ _ _ _ => ⟨rfl, rfl⟩), trivial⟩
 obtain ⟨hp0, hp1⟩ := insP_len l k
 by_cases hkl : k < l.length
 ·have hkl' : (k : Int) < l.length := by omega
  have hv := pInt_A (l.getD k 0) (hl.2 k hkl)
  have hle := inB_le (l.getD k 0)
  have ev : iF (fun k => l.getD k 0) k 0 = iC (l.getD k 0) := rfl
  have hw1 := wstr1_M (insP l k) (inB (l.getD k 0)) hp0 (by omega)
  repeat (first
   | refine uA ?_
   | refine uB ?_
   | refine uC ?_
   | refine uG ?_
   | refine uD ?_
   | refine kT ?_
   | (refine rG 4 ?_
      refine qr5t aK ?_
      refine aB ?_)
   | (refine rG 5 ?_
      refine qr8eo2 (aP (k := k) tyOk) ?_
      refine AList.load1lE tyOk (ev) rfl rfl rfl rfl rfl oM ?_
      refine kC ?_
      refine aB ?_)
   | (refine rG 6 ?_
      (iterate 2 refine kA ?_)
      refine AList.call0 rfl rfl rfl rfl rfl Try.func67 rfl (by kernel_rfl) (hv) ?_
      refine AList.callM [5] [30] [40] [sbB (.pt 1000 2 0 0) (.ow 800)] [byB (insP l k)] [sbB (.pt 1000 2 0 0) (.ow 900)] [byB (insP l k ++ inB (l.getD k 0))] [sbB (.pt 5 2 0 0) (.ow 40)] [byB (insP l k ++ inB (l.getD k 0))] rfl rfl FnV.func rfl Try.func66 rfl (by kernel_rfl) (sb_lend rfl (.b (.pt 5 0 2 0 0 rfl)) (.b (.mv 30 0 rfl)) trivial) (by_mov rfl) rfl (by exact ⟨sb_arg, p_arg, trivial⟩) (tu2_back) (sb_back (.b (.pt 0 5 2 0 0 rfl)) (.b (.owN 0 40 rfl)) trivial) (by_new) (hw1) ?_
      refine aB ?_)
   | (refine rG 7 ?_
      refine qr4w2 aL ?_
      refine kA ?_
      refine aB ?_))
  refine ⟨k + 1, hkl, Wk.mk [(5, some 5), (30, some 40)] rfl rfl rfl ?_ ?_, by omega⟩
  ·exact allF
  ·rw [insP_succ l hkl]
   exact ⟨HeapOk.box rfl rfl ⟨LeC.pt _ _ _ _ _ rfl, LeC.ow _ _ rfl, trivial⟩ rfl, HeapOk.row rfl rfl rfl (fun _ _ _ _ => ⟨rfl, rfl⟩), trivial⟩
 ·obtain rfl : k = l.length := by omega
  have hkl' : ¬ (l.length : Int) < l.length := by omega
  rw [insP_all] at hp0 ⊢
  repeat (first
   | refine uA ?_
   | refine uB ?_
   | refine uH ?_
   | refine AWp.ret ?_
   | refine kU ?_
   | (refine rG 4 ?_
      refine qr5f aJ ?_
      refine aB ?_)
   | (refine rG 8 ?_
      refine AList.callM [5] [30] [] [sbB (.pt 1000 2 0 0) (.ow 800)] [byB (insB l)] [sbB (.pt 1000 2 0 0) .any] [] [sbB (.pt 5 2 0 0) .any] [] rfl rfl FnV.func rfl Try.func69 rfl (by kernel_rfl) (sb_lend rfl (.b (.pt 5 0 2 0 0 rfl)) (.b (.mv 30 0 rfl)) trivial) (by_mov rfl) rfl (by exact ⟨sb_arg, trivial⟩) (.c (.imm _ rfl)) (sb_back (.b (.pt 0 5 2 0 0 rfl)) (.b (.any _)) trivial) (trivial) (sstr_M (insB l) (hp0)) ?_
      refine kC ?_
      refine aB ?_))
  refine ⟨mkSt 24 [(4, .c (byV (insB l)))] [] [], [], Wk.mk [] rfl rfl rfl ?_ trivial, rfl, rfl, aR1⟩
  exact allT
set_option maxRecDepth 100000 in
theorem pInts_A (l : List Int) (hl : lOk l) : ACalls Try.prog 68 [.c (liV l)] (.c (byV (insB l))) := by
 have h := fun C => plist_A l C hl
 refine acalls_at Try.func68 rfl rfl Try.ntmps68 rfl ?_
 repeat (first
  | refine uA ?_
  | refine uB ?_
  | refine AWp.ret ?_
  | (refine rG 0 ?_
     refine kC ?_
     refine aB ?_)
  | (refine rG 1 ?_
     refine kA ?_
     refine AList.callH [] [] [] rfl rfl rfl Try.func119 rfl (by kernel_rfl) (trivial) rfl (trivial) (h _) ?_
     refine kC ?_
     refine aB ?_))
 refine ⟨mkSt 5 [(2, .c (byV (insB l)))] [] [], [], Wk.mk [] rfl rfl rfl ?_ trivial, rfl, rfl, aR1⟩
 exact allT
abbrev wtY (w : Wt) : List UInt8 := insB w.1 ++ insB w.2
def prY (p : List Wt) : List UInt8 := inB p.length ++ p.flatMap wtY
def prP (p : List Wt) (k : Nat) : List UInt8 := inB p.length ++ (p.take k).flatMap wtY
def PrR (p : List Wt) : Prop := p.length ≤ 1000000 ∧ ∀ k, k < p.length → lOk (p.getD k wtZ).1 ∧ lOk (p.getD k wtZ).2
theorem take_snocG {α : Type} {L : List α} {k : Nat} (h : k < L.length) (z : α) : L.take (k + 1) = L.take k ++ [L.getD k z] := by
 rw [List.getD_eq_getElem?_getD, List.getElem?_eq_getElem h, Option.getD_some, ← List.take_append_getElem h]
theorem prP_zero (p : List Wt) : prP p 0 = inB p.length := by unfold prP; simp
theorem prP_succ (p : List Wt) {k : Nat} (hk : k < p.length) : prP p (k + 1) = prP p k ++ wtY (p.getD k wtZ) := by
 unfold prP
 rw [take_snocG hk wtZ, List.flatMap_append, List.append_assoc]
 simp
theorem prP_all (p : List Wt) : prP p p.length = prY p := by unfold prP prY; rw [List.take_length]
theorem prP_len {p : List Wt} (hp : PrR p) : ∀ k, k ≤ p.length → 0 < (prP p k).length ∧ (prP p k).length ≤ 11 + k * 22000022
 | 0, _ => by
   rw [prP_zero]
   have h1 := inB_pos (p.length : Int)
   have h2 := inB_le (p.length : Int)
   omega
 | k + 1, hk => by
   obtain ⟨h1, h2⟩ := prP_len hp k (by omega)
   obtain ⟨⟨h3, -⟩, h4, -⟩ := hp.2 k (by omega)
   rw [prP_succ p (by omega), List.length_append, List.length_append]
   have h5 := insB_le (p.getD k wtZ).1
   have h6 := insB_le (p.getD k wtZ).2
   omega
theorem by_cat (a b : List UInt8) : (⟨a.toArray⟩ : ByteArray) ++ ⟨b.toArray⟩ = ⟨(a ++ b).toArray⟩ := by
 apply ByteArray.ext
 simp
set_option maxHeartbeats 2000000 in
set_option maxRecDepth 100000 in
theorem pBytes_A (p : List Wt) (hp : PrR p) : ACalls Try.prog 27 [.c (wpC p)] (.c (byV (prY p))) := by
 have hp1 := hp.1
 have hl0 := inB_le (p.length : Int)
 have hn := pInt_A p.length (by omega)
 have hw0 := wstr0_M (inB p.length) (by omega)
 refine acalls_at Try.func27 rfl rfl Try.ntmps27 rfl ?_
 repeat (first
  | refine uA ?_
  | (refine rG 0 ?_
     refine kC ?_
     refine aB ?_)
  | (refine rG 1 ?_
     refine qr5 (aM tyOk) ?_
     refine aB ?_))
 refine AWp.weak (S' := mkSt 26 [(0, .c (wpC p)), (3, .c (.pt 3 2 0 0))] [(3, sbZ)] [3]) (Wk.mk [(3, some 3)] rfl rfl rfl ?_ ?_) ?_
 ·exact allT
 ·exact ⟨HeapOk.box rfl rfl ⟨LeC.refl _ rfl, LeC.refl _ rfl, trivial⟩ rfl, trivial⟩
 repeat (first
  | refine uA ?_
  | refine uB ?_
  | refine uC ?_
  | (refine rG 2 ?_
     refine kA ?_
     refine qr5 (aO tyOk) ?_
     refine aH rfl rfl rfl rfl Try.func67 rfl (by kernel_rfl) (hn) ?_
     refine AList.callM [3] [] [40] [sbZ] [] [sbB (.pt 1000 2 0 0) (.ow 900)] [byB (inB p.length)] [sbB (.pt 3 2 0 0) (.ow 40)] [byB (inB p.length)] rfl rfl FnV.func rfl Try.func66 rfl (by kernel_rfl) (sb_lend rfl (.b (.imm _ rfl)) (.b (.imm _ rfl)) trivial) (trivial) rfl (by exact ⟨sb_arg, p_arg, trivial⟩) (tu2_back) (sb_back (.b (.pt 0 3 2 0 0 rfl)) (.b (.owN 0 40 rfl)) trivial) (by_new) (hw0) ?_
     refine aB ?_)
  | (refine rG 3 ?_
     refine kA ?_
     refine qr5 (aO tyOk) ?_
     refine kA ?_
     refine aB ?_))
 refine AWp.round (fun k : Nat =>
  mkSt 26 [(3, .c (.pt 3 2 0 0)), (10, .c (wpC p)), (11, .c (iC p.length)), (12, .c (iC (k : Nat)))] [(3, sbB (.pt 3 2 0 0) (.ow 30)), (30, byB (prP p k))] [3, 30]
  ) (fun k => k ≤ p.length) (fun k => p.length - k) 0 (Nat.zero_le _) ?_ (fun k hk => ?_)
 ·refine Wk.mk [(3, some 3), (30, some 40)] rfl rfl rfl ?_ ?_
  ·exact allT
  ·rw [prP_zero]
   exact ⟨HeapOk.box rfl rfl ⟨LeC.pt _ _ _ _ _ rfl, LeC.ow _ _ rfl, trivial⟩ rfl, HeapOk.row rfl rfl rfl (fun _ _ _ _ => ⟨rfl, rfl⟩), trivial⟩
 obtain ⟨hq0, hq1⟩ := prP_len hp k hk
 by_cases hkl : k < p.length
 ·have hkl' : (k : Int) < p.length := by omega
  obtain ⟨o1, o2⟩ := hp.2 k hkl
  have c1 := pInts_A _ o1
  have c2 := pInts_A _ o2
  have h5 := insB_le (p.getD k wtZ).1
  have h6 := insB_le (p.getD k wtZ).2
  have h7 := o1.1
  have h8 := o2.1
  have ew : cellsFrom (rowF wtC wtZ p k) 0 2 = wtC (p.getD k wtZ) := rfl
  have hs : prP p (k + 1) = prP p k ++ wtY (p.getD k wtZ) := prP_succ p hkl
  generalize p.getD k wtZ = w at *
  have hw1 := wstr1_M (prP p k) (wtY w) hq0 (by rw [List.length_append]; omega)
  have hz : (⟨(insB w.1).toArray⟩ : ByteArray).size + (⟨(insB w.2).toArray⟩ : ByteArray).size ≤ 9223372036854775807 := by
   show (insB w.1).length + (insB w.2).length ≤ _
   omega
  repeat (first
   | refine uA ?_
   | refine uB ?_
   | refine uC ?_
   | refine uG ?_
   | refine kT ?_
   | (refine rG 4 ?_
      refine qr5t aK ?_
      refine aB ?_)
   | (refine rG 5 ?_
      refine qr8eo2 (aP (k := k) tyOk) ?_
      refine AList.loadAlE tyOk (ew) rfl rfl rfl rfl rfl oM ?_
      refine qr5 (aM tyOk) ?_
      refine kI ?_
      refine aB ?_))
  refine AWp.weak (S' := mkSt 26 [(3, .c (.pt 3 2 0 0)), (5, .c (.pt 5 2 0 0)), (10, .c (wpC p)), (11, .c (iC p.length)), (12, .c (iC (k : Nat)))] [(3, sbB (.pt 3 2 0 0) (.ow 30)), (5, ⟨false, 1, 2, 62, lF (wtC w)⟩), (30, byB (prP p k))] [3, 5, 30]) (Wk.mk [(3, some 3), (5, some 5), (30, some 30)] rfl rfl rfl ?_ ?_) ?_
  ·exact allT
  ·exact ⟨HeapOk.box rfl rfl ⟨LeC.pt _ _ _ _ _ rfl, LeC.ow _ _ rfl, trivial⟩ rfl, hSm, HeapOk.row rfl rfl rfl (fun _ _ _ _ => ⟨rfl, rfl⟩), trivial⟩
  repeat (first
   | refine uB ?_
   | refine uD ?_
   | (refine AWp.draw (id := 6) mixed ?_; refine kD ?_; refine kE ?_; refine aH rfl rfl rfl rfl Try.func68 rfl (by kernel_rfl) (c1) ?_; refine kD ?_; refine kE ?_; refine aH rfl rfl rfl rfl Try.func68 rfl (by kernel_rfl) (c2) ?_; refine AList.catStr _ (hz) (by_cat _ _) rfl rfl rfl rfl ?_; refine AList.callM [3] [30] [40] [sbB (.pt 1000 2 0 0) (.ow 800)] [byB (prP p k)] [sbB (.pt 1000 2 0 0) (.ow 900)] [byB (prP p k ++ wtY w)] [sbB (.pt 3 2 0 0) (.ow 40)] [byB (prP p k ++ wtY w)] rfl rfl FnV.func rfl Try.func66 rfl (by kernel_rfl) (sb_lend rfl (.b (.pt 3 0 2 0 0 rfl)) (.b (.mv 30 0 rfl)) trivial) (by_mov rfl) rfl (by exact ⟨sb_arg, p_arg, trivial⟩) (tu2_back) (sb_back (.b (.pt 0 3 2 0 0 rfl)) (.b (.owN 0 40 rfl)) trivial) (by_new) (hw1) ?_; refine aB ⟨by kernel_rfl, ?_⟩)
   | (refine rG 7 ?_
      refine qr4w2 aL ?_
      refine kA ?_
      refine aB ?_))
  refine ⟨k + 1, hkl, Wk.mk [(3, some 3), (30, some 40)] rfl rfl rfl ?_ ?_, by omega⟩
  ·exact allT
  ·rw [hs]
   exact ⟨HeapOk.box rfl rfl ⟨LeC.pt _ _ _ _ _ rfl, LeC.ow _ _ rfl, trivial⟩ rfl, HeapOk.row rfl rfl rfl (fun _ _ _ _ => ⟨rfl, rfl⟩), trivial⟩
 ·obtain rfl : k = p.length := by omega
  have hkl' : ¬ (p.length : Int) < p.length := by omega
  rw [prP_all] at hq0 ⊢
  repeat (first
   | refine uA ?_
   | refine uB ?_
   | refine uH ?_
   | refine AWp.ret ?_
   | refine kU ?_
   | (refine rG 4 ?_
      refine qr5f aJ ?_
      refine aB ?_)
   | (refine rG 8 ?_
      refine AList.callM [3] [30] [] [sbB (.pt 1000 2 0 0) (.ow 800)] [byB (prY p)] [sbB (.pt 1000 2 0 0) .any] [] [sbB (.pt 3 2 0 0) .any] [] rfl rfl FnV.func rfl Try.func69 rfl (by kernel_rfl) (sb_lend rfl (.b (.pt 3 0 2 0 0 rfl)) (.b (.mv 30 0 rfl)) trivial) (by_mov rfl) rfl (by exact ⟨sb_arg, trivial⟩) (.c (.imm _ rfl)) (sb_back (.b (.pt 0 3 2 0 0 rfl)) (.b (.any _)) trivial) (trivial) (sstr_M (prY p) (hq0)) ?_
      refine kC ?_
      refine aB ?_))
  refine ⟨mkSt 26 [(2, .c (byV (prY p)))] [] [], [], Wk.mk [] rfl rfl rfl ?_ trivial, rfl, rfl, aR1⟩
  exact allT
set_option maxHeartbeats 2000000 in
set_option maxRecDepth 100000 in
theorem rInt_A (n : Int) (hn : -9223372036854775808 ≤ n ∧ n ≤ 9223372036854775807) : ACalls Try.prog 75 [.c (iC n)] (.c (byV (inB n))) := by
 have hz := zz_lt hn
 obtain ⟨r, hr9, hrl, hrc⟩ := vz_ex (zz n) hz
 have hv := vz_at hr9 hrl hrc
 obtain ⟨c, hc⟩ : ∃ c, zz n = c := ⟨_, rfl⟩
 obtain ⟨c0, h7, h11, h0c⟩ : ∃ c0 : Nat, IntKind.u64.wrap (IntKind.u64.wrap n * 2 ^ 1) = (c0 : Int) ∧ (n < 0 → c0 < 18446744073709551616 ∧ 18446744073709551615 - c0 = c) ∧ (¬ n < 0 → c0 = c) := by
  by_cases h : n < 0
  ·obtain ⟨a1, a2, a3⟩ := zz_neg hn.1 h
   exact ⟨_, a2, fun _ => ⟨by omega, by rw [a3, hc]⟩, fun h' => absurd h h'⟩
  ·obtain ⟨a1, a2⟩ := zz_nn hn.2 h
   exact ⟨_, a2, fun h' => absurd h' h, fun _ => hc⟩
 rw [hc] at hz hrl hrc hv
 rw [show inB n = vz c by unfold inB; rw [hc], hv]
 refine acalls_at Try.func75 rfl rfl Try.ntmps75 rfl ?_
 repeat (first
  | refine uA ?_
  | refine uB ?_
  | (refine rG 0 ?_
     refine kC ?_
     refine aB ?_)
  | (refine rG 1 ?_
     refine kA ?_
     refine AList.convI (rfl) (by kernel_rfl) Try.underlying171 rfl rfl rfl ?_
     refine AList.bin rfl rfl rfl rfl rfl (shl_run (n := 1) (by decide) h7) rfl ?_
     refine kC ?_
     refine aB ?_)
  | (refine rG 2 ?_
     refine kA ?_
     refine qr5 aW ?_
     refine aB ?_))
 refine AWp.cut (mkSt 30 [(3, .c (wC c))] [] []) ?_ (fun S2 hw2 => AWp.weak hw2 ?_)
 ·by_cases h : n < 0
  ·obtain ⟨g1, g2⟩ := h11 h
   have g3 := not_run64 (P := Try.prog) g1
   rw [g2] at g3
   have hb : cmpP .lss n 0 = true := decide_eq_true h
   repeat (first
    | refine kT ?_
    | (refine rG 3 ?_
       refine kA ?_
       refine AList.un rfl rfl rfl (g3) rfl ?_
       refine kC ?_
       refine aB ?_))
   refine ⟨rfl, Wk.mk [] rfl rfl rfl ?_ trivial⟩
   exact allT
  ·obtain rfl := h0c h
   have hb : cmpP .lss n 0 = false := decide_eq_false h
   repeat (first
    | refine uG ?_
    | refine kU ?_)
   refine ⟨rfl, Wk.mk [] rfl rfl rfl ?_ trivial⟩
   exact allT
 clear hw2 S2
 have hm : ∀ k, k < r + 1 → c / 128 ^ k < 18446744073709551616 := fun k _ => Nat.lt_of_le_of_lt (Nat.div_le_self _ _) hz
 have hsh : ∀ k, ((c / 128 ^ k : Nat) : Int) / 2 ^ 7 = ((c / 128 ^ (k + 1) : Nat) : Int) := fun k => by
  rw [Nat.pow_succ, ← Nat.div_div_eq_div_mul]
  omega
 repeat (first
  | refine uA ?_
  | refine uC ?_
  | (refine rG 4 ?_
     refine kC ?_
     refine aB ?_))
 refine AWp.round (fun i : Nat => mkSt 30 [(3, .c (wC (c / 128 ^ i))), (4, .c (.ow 50))] [(50, byB (vzP c i))] [50]) (fun i => i ≤ r) (fun i => r - i) 0 (Nat.zero_le _) ?_ (fun i hi => ?_)
 ·refine Wk.mk [(50, none)] rfl rfl rfl ?_ ?_
  ·rw [Nat.pow_zero, Nat.div_one]
   exact allT
  ·exact allH
 have hmi := hm i (by omega)
 have hsi := hsh i
 have hl := vzP_len c i
 by_cases hir : i < r
 ·have h128 := hrl i hir
  have hP : vzP c (i + 1) = vzP c i ++ [UInt8.ofNat (c / 128 ^ i % 128 + 128)] := rfl
  generalize hx : c / 128 ^ i = x at *
  have h128' : (127 : Int) < (x : Nat) := by omega
  have ha := and_run64 (P := Try.prog) (t := 171) (a := x) (b := 127) hmi (by omega) (and127 x)
  have hti : IntKind.u8.wrap ((x % 128 : Nat) : Int) = ((x % 128 : Nat) : Int) := by rw [IntKind.wrap_u8]; omega
  have had := add_run8 (P := Try.prog) (t := 5) (a := x % 128) (b := 128) (by omega)
  have hsr := shr_run (P := Try.prog) (t := 171) (k := .u64) (ky := .u64) (n := 7) (by decide) hsi
  repeat (first
   | refine uA ?_
   | refine uB ?_
   | refine uC ?_
   | refine uG ?_
   | refine uD ?_
   | refine kT ?_
   | (refine rG 5 ?_
      refine kA ?_
      refine qr5t aK ?_
      refine aB ?_)
   | (refine rG 6 ?_
      (iterate 2 refine kA ?_)
      refine AList.bin rfl rfl rfl rfl rfl (ha) rfl ?_
      refine AList.convI (hti) (by kernel_rfl) Try.underlying5 rfl rfl rfl ?_
      refine AList.bin rfl rfl rfl rfl rfl (had) rfl ?_
      refine qr11 (AList.litSl tyOk) ?_
      refine AList.appL tyOk rfl rfl rfl rfl rfl rfl rfl rfl rfl rfl oM oM ?_
      refine kC ?_
      refine aB ?_)
   | (refine rG 7 ?_
      refine kA ?_
      refine AList.bin rfl rfl rfl rfl rfl (hsr) rfl ?_
      refine kC ?_
      refine aB ?_))
  refine ⟨i + 1, hir, Wk.mk [(50, some 20)] rfl rfl rfl ?_ ?_, by omega⟩
  ·exact allT
  ·rw [hP]
   exact ⟨HeapOk.row rfl rfl (by rw [List.length_append]; rfl) (by_snoc _ _ _ (u8_of (show x % 128 + 128 < 256 by omega))), trivial⟩
 obtain rfl : i = r := by omega
 have htu : IntKind.u8.wrap ((c / 128 ^ i : Nat) : Int) = ((c / 128 ^ i % 256 : Nat) : Int) := by rw [IntKind.wrap_u8]; omega
 generalize hx : c / 128 ^ i = x at *
 have h128' : ¬ (127 : Int) < (x : Nat) := by omega
 have hpos : 0 < (vzP c i ++ [UInt8.ofNat (x % 256)]).length := by rw [List.length_append]; exact Nat.succ_pos _
 repeat (first
  | refine uA ?_
  | refine uB ?_
  | refine uH ?_
  | refine kU ?_
  | (refine rG 5 ?_
     refine kA ?_
     refine qr5f aJ ?_
     refine aB ?_)
  | (refine rG 8 ?_
     (iterate 2 refine kA ?_)
     refine AList.convI (htu) (by kernel_rfl) Try.underlying5 rfl rfl rfl ?_
     refine qr11 (AList.litSl tyOk) ?_
     refine AList.appL tyOk rfl rfl rfl rfl rfl rfl rfl rfl rfl rfl oM oM ?_
     refine kC ?_
     refine aB ?_))
 refine AWp.weak (S' := mkSt 30 [(4, .c (.ow 50))] [(50, byB (vzP c i ++ [UInt8.ofNat (x % 256)]))] [50]) (Wk.mk [(50, some 27)] rfl rfl rfl ?_ ?_) ?_
 ·exact allT
 ·exact ⟨HeapOk.row rfl rfl (by rw [List.length_append]; rfl) (by_snoc _ _ _ (u8_of (show x % 256 < 256 by omega))), trivial⟩
 repeat (first
  | refine uB ?_
  | refine AWp.ret ?_
  | (refine rG 9 ?_
     refine kA ?_
     refine AList.toStr Try.underlying88 Try.underlying5 Try.underlying9 rfl rfl rfl rfl (fun _ _ => rfl) (hpos) ?_
     refine kC ?_
     refine aB ?_))
 refine ⟨mkSt 30 [(2, .c (byV (vzP c i ++ [UInt8.ofNat (x % 256)])))] [] [], [], Wk.mk [] rfl rfl rfl ?_ trivial, rfl, rfl, aR1⟩
 exact allT
set_option maxHeartbeats 2000000 in
set_option maxRecDepth 100000 in
theorem rInts_A (l : List Int) (hl : lOk l) : ACalls Try.prog 76 [.c (liV l)] (.c (byV (insB l))) := by
 have hl1 := hl.1
 have hl0 := inB_le (l.length : Int)
 have hn := rInt_A l.length (by omega)
 refine acalls_at Try.func76 rfl rfl Try.ntmps76 rfl ?_
 repeat (first
  | refine uA ?_
  | refine uB ?_
  | refine uC ?_
  | (refine rG 0 ?_
     refine kC ?_
     refine aB ?_)
  | (refine rG 1 ?_
     refine kA ?_
     refine qr5 (aO tyOk) ?_
     refine aH rfl rfl rfl rfl Try.func75 rfl (by kernel_rfl) (hn) ?_
     refine kC ?_
     refine aB ?_)
  | (refine rG 2 ?_
     refine kC ?_
     refine aB ?_))
 refine AWp.round (fun k : Nat => mkSt 22 [(0, .c (liV l)), (3, .c (byV (insP l k))), (4, .c (iC k))] [] [])
  (fun k => k ≤ l.length) (fun k => l.length - k) 0 (Nat.zero_le _) ?_ (fun k hk => ?_)
 ·refine Wk.mk [] rfl rfl rfl ?_ trivial
  rw [insP_zero]
  exact allT
 obtain ⟨hp0, hp1⟩ := insP_len l k
 by_cases hkl : k < l.length
 ·have hkl' : (k : Int) < l.length := by omega
  have hv := rInt_A (l.getD k 0) (hl.2 k hkl)
  have hle := inB_le (l.getD k 0)
  have ev : iF (fun k => l.getD k 0) k 0 = iC (l.getD k 0) := rfl
  have hz : (⟨(insP l k).toArray⟩ : ByteArray).size + (⟨(inB (l.getD k 0)).toArray⟩ : ByteArray).size ≤ 9223372036854775807 := by
   show (insP l k).length + (inB (l.getD k 0)).length ≤ _
   omega
  repeat (first
   | refine uA ?_
   | refine uB ?_
   | refine uC ?_
   | refine uG ?_
   | refine uD ?_
   | refine kT ?_
   | (refine rG 3 ?_
      (iterate 2 refine kA ?_)
      refine qr5 (aO tyOk) ?_
      refine qr5t aK ?_
      refine aB ?_)
   | (refine rG 4 ?_
      refine kA ?_
      refine qr4w2 aL ?_
      refine kC ?_
      refine aB ?_)
   | (refine rG 5 ?_
      (iterate 3 refine kA ?_)
      refine qr8eo2 (aP (k := k) tyOk) ?_
      refine AList.load1lE tyOk (ev) rfl rfl rfl rfl rfl oM ?_
      refine aH rfl rfl rfl rfl Try.func75 rfl (by kernel_rfl) (hv) ?_
      refine AList.catStr _ (hz) (by_cat _ _) rfl rfl rfl rfl ?_
      refine kC ?_
      refine aB ?_))
  refine ⟨k + 1, hkl, Wk.mk [] rfl rfl rfl ?_ trivial, by omega⟩
  rw [insP_succ l hkl]
  exact allT
 ·obtain rfl : k = l.length := by omega
  have hkl' : ¬ (l.length : Int) < l.length := by omega
  rw [insP_all]
  repeat (first
   | refine uA ?_
   | refine uB ?_
   | refine uH ?_
   | refine AWp.ret ?_
   | refine kU ?_
   | (refine rG 3 ?_
      (iterate 2 refine kA ?_)
      refine qr5 (aO tyOk) ?_
      refine qr5f aJ ?_
      refine aB ?_)
   | (refine rG 6 ?_
      refine kA ?_
      refine kC ?_
      refine aB ?_))
  refine ⟨mkSt 22 [(2, .c (byV (insB l)))] [] [], [], Wk.mk [] rfl rfl rfl ?_ trivial, rfl, rfl, aR1⟩
  exact allT
set_option maxHeartbeats 2000000 in
set_option maxRecDepth 100000 in
theorem rBytes_A (p : List Wt) (hp : PrR p) : ACalls Try.prog 29 [.c (wpC p)] (.c (byV (prY p))) := by
 have hp1 := hp.1
 have hl0 := inB_le (p.length : Int)
 have hn := rInt_A p.length (by omega)
 refine acalls_at Try.func29 rfl rfl Try.ntmps29 rfl ?_
 repeat (first
  | refine uA ?_
  | refine uB ?_
  | refine uC ?_
  | (refine rG 0 ?_
     refine kC ?_
     refine aB ?_)
  | (refine rG 1 ?_
     refine kA ?_
     refine qr5 (aO tyOk) ?_
     refine aH rfl rfl rfl rfl Try.func75 rfl (by kernel_rfl) (hn) ?_
     refine kC ?_
     refine aB ?_)
  | (refine rG 2 ?_
     refine kC ?_
     refine aB ?_))
 refine AWp.round (fun k : Nat => mkSt 30 [(0, .c (wpC p)), (3, .c (byV (prP p k))), (4, .c (iC k))] [] [])
  (fun k => k ≤ p.length) (fun k => p.length - k) 0 (Nat.zero_le _) ?_ (fun k hk => ?_)
 ·refine Wk.mk [] rfl rfl rfl ?_ trivial
  rw [prP_zero]
  exact allT
 obtain ⟨hq0, hq1⟩ := prP_len hp k hk
 by_cases hkl : k < p.length
 ·have hkl' : (k : Int) < p.length := by omega
  obtain ⟨o1, o2⟩ := hp.2 k hkl
  have c1 := rInts_A _ o1
  have c2 := rInts_A _ o2
  have h5 := insB_le (p.getD k wtZ).1
  have h6 := insB_le (p.getD k wtZ).2
  have h7 := o1.1
  have h8 := o2.1
  have q1 : rowF wtC wtZ p k 0 = liV (p.getD k wtZ).1 := rfl
  have q2 : rowF wtC wtZ p k 1 = liV (p.getD k wtZ).2 := rfl
  have hs : prP p (k + 1) = prP p k ++ insB (p.getD k wtZ).1 ++ insB (p.getD k wtZ).2 := by rw [prP_succ p hkl, List.append_assoc]
  generalize p.getD k wtZ = w at *
  have hz : (⟨(prP p k).toArray⟩ : ByteArray).size + (⟨(insB w.1).toArray⟩ : ByteArray).size ≤ 9223372036854775807 := by
   show (prP p k).length + (insB w.1).length ≤ _
   omega
  have hz2 : (⟨(prP p k ++ insB w.1).toArray⟩ : ByteArray).size + (⟨(insB w.2).toArray⟩ : ByteArray).size ≤ 9223372036854775807 := by
   show (prP p k ++ insB w.1).length + (insB w.2).length ≤ _
   rw [List.length_append]
   omega
  repeat (first
   | refine uA ?_
   | refine uB ?_
   | refine uC ?_
   | refine uG ?_
   | refine uD ?_
   | refine kT ?_
   | (refine rG 3 ?_
      (iterate 2 refine kA ?_)
      refine qr5 (aO tyOk) ?_
      refine qr5t aK ?_
      refine aB ?_)
   | (refine rG 4 ?_
      refine kA ?_
      refine qr4w2 aL ?_
      refine kC ?_
      refine aB ?_)
   | (refine AWp.draw (id := 5) mixed ?_; (iterate 3 refine kA ?_); refine qr8eo2 (aP (k := k) tyOk) ?_; refine qr7 (AList.fieldPl tyOk) ?_; refine AList.load1lE tyOk (q1) rfl rfl rfl rfl rfl oM ?_; refine aH rfl rfl rfl rfl Try.func76 rfl (by kernel_rfl) (c1) ?_; refine AList.catStr _ (hz) (by_cat _ _) rfl rfl rfl rfl ?_; (iterate 2 refine kA ?_); refine qr8eo2 (aP (k := k) tyOk) ?_; refine qr7 (AList.fieldPl tyOk) ?_; refine AList.load1lE tyOk (q2) rfl rfl rfl rfl rfl oM ?_; refine aH rfl rfl rfl rfl Try.func76 rfl (by kernel_rfl) (c2) ?_; refine AList.catStr _ (hz2) (by_cat _ _) rfl rfl rfl rfl ?_; refine kC ?_; refine aB ⟨by kernel_rfl, ?_⟩))
  refine ⟨k + 1, hkl, Wk.mk [] rfl rfl rfl ?_ trivial, by omega⟩
  rw [hs]
  exact allT
 ·obtain rfl : k = p.length := by omega
  have hkl' : ¬ (p.length : Int) < p.length := by omega
  rw [prP_all]
  repeat (first
   | refine uA ?_
   | refine uB ?_
   | refine uH ?_
   | refine AWp.ret ?_
   | refine kU ?_
   | (refine rG 3 ?_
      (iterate 2 refine kA ?_)
      refine qr5 (aO tyOk) ?_
      refine qr5f aJ ?_
      refine aB ?_)
   | (refine rG 6 ?_
      refine kA ?_
      refine kC ?_
      refine aB ?_))
  refine ⟨mkSt 30 [(2, .c (byV (prY p)))] [] [], [], Wk.mk [] rfl rfl rfl ?_ trivial, rfl, rfl, aR1⟩
  exact allT
theorem strEq_run {P : Program} {t : TypeId} {a b : List UInt8} (w : World) : (Go.binOp .eql t (.string ⟨a.toArray⟩) (.string ⟨b.toArray⟩)).run P w = .ok (.bool (decide (a = b))) w := by
 have h : (a == b) = decide (a = b) := by
  by_cases h : a = b
  ·subst h
   simp
  ·rw [decide_eq_false h]
   exact Bool.eq_false_iff.2 fun e => h (eq_of_beq e)
 show Sem.run P (Op.stringOp .eql _ _) w = _
 simp [Op.stringOp, h]
set_option maxRecDepth 100000 in
theorem Same25_A (p q : List Wt) (hp : PrR p) (hq : PrR q) : ACalls Try.prog 18 [.c (wpC p), .c (wpC q)] (.c (bC (decide (prY p = prY q)))) := by
 have c1 := rBytes_A p hp
 have c2 := rBytes_A q hq
 refine acalls_at Try.func18 rfl rfl Try.ntmps18 rfl ?_
 repeat (first
  | refine uA ?_
  | refine uB ?_
  | refine AWp.ret ?_
  | (refine rG 0 ?_
     refine kC ?_
     refine aB ?_)
  | (refine rG 1 ?_
     refine kA ?_
     refine aH rfl rfl rfl rfl Try.func29 rfl (by kernel_rfl) (c1) ?_
     refine kA ?_
     refine aH rfl rfl rfl rfl Try.func29 rfl (by kernel_rfl) (c2) ?_
     refine AList.bin rfl rfl rfl rfl rfl (strEq_run) rfl ?_
     refine kC ?_
     refine aB ?_))
 refine ⟨mkSt 10 [(4, .c (bC (decide (prY p = prY q))))] [] [], [], Wk.mk [] rfl rfl rfl ?_ trivial, rfl, rfl, aR1⟩
 exact allT
end Go.Proofs.Ytekkldgmjdllbaa
end
