/- Parts of the proof: AMem, AMem3, AMem5, AMem9, AMemA, AOld, A23a, A23g, A23n, A24i, A24j, A24k. -/
import Derived.Test.YtekkldgmjdllbaaG05
import Derived.Test.YtekkldgmjdllbaaG04
import Derived.Test.YtekkldgmjdllbaaG03
import Derived.RangeFuncLeaves
import Derived.RangeFuncRecord
import Derived.Test.YtekkldgmjdllbaaG02
import Derived.Test.YtekkldgmjdllbaaG01
import Derived.Deep.AppendLies
import Derived.OrdersIn
import Derived.TacticsIn
import Derived.RangeFuncCalls
import Derived.Maps.AppendAt
import Derived.OwnWalk
import Derived.StillTail
import Derived.Below
import Derived.Deep.Draws
import Derived.WalkKit
import Derived.KernelRfl
import Derived.Test.YtekkldgmjdllbaaG06
import Derived.Great.BuildSlice
import Derived.Test.YtekkldgmjdllbaaG07
import Derived.Test.YtekkldgmjdllbaaG08
import Derived.Laws.StructEq
import Derived.Test.YtekkldgmjdllbaaG11
import Derived.Test.YtekkldgmjdllbaaG10
import Derived.Test.YtekkldgmjdllbaaProg
import Derived.Lib.Hide
import Derived.Deep.QuietTactic
import Derived.BigQuiet
import Derived.Deep.DrawnRows
import Derived.Test.YtekkldgmjdllbaaG16
import Derived.Laws.Cover3
import Derived.Test.YtekkldgmjdllbaaG14
import Derived.Test.YtekkldgmjdllbaaG15
import Derived.Test.YtekkldgmjdllbaaG17
import Derived.Test.YtekkldgmjdllbaaG13
import Derived.Test.YtekkldgmjdllbaaG12
import Derived.Test.YtekkldgmjdllbaaG09
import Derived.Shelf.Abstract
import Derived.RangeFuncNested
import Derived.Test.YtekkldgmjdllbaaG19
import Derived.Test.YtekkldgmjdllbaaG18
set_option linter.unusedSimpArgs false
set_option linter.unusedVariables false
section
namespace Go.AV
open Go Go.RowKit Go.Flow
section
variable {P : Program} {tab : List (TypeId × TD)}
section ops
variable {ops : Array Oper} {rest : List Oper} {acc : List (List Nat × List Nat)} {S : St} {Q : List (List Nat × List Nat) → St → Prop} {dst : Option Tmp} {ty : TypeId} {pos : String} {after : Array Edge} {guard : Option (Nat × Bool)}
theorem AList.lenNil (T : tabOk P tab = true) {x : Operand} {t1 : TypeId} {d : TD} {el : TypeId} (hw : S.wants ops { dst, op := .call { callee := .builtin .len, args := #[x], argTypes := #[t1] }, type := ty, pos, after, guard } = some true) (hd : dOk S.n dst = true)
 (hx : S.opd x = some (.c (.p (.slice none 0 0)))) (ht : assoc tab t1 = some d) (hk : d.k = .sl el)
 (hn : AList P ops rest (([], []) :: acc) (S.eff dst ⟨.c (.p (.int .i64 0)), [], []⟩) Q) : AList P ops ({ dst, op := .call { callee := .builtin .len, args := #[x], argTypes := #[t1] }, type := ty, pos, after, guard } :: rest) acc S Q :=
 AList.len (rd := []) (n := 0) hw hd (ty_sl T ht hk) hx (fun S1 _ b0 σ a w R u hu => ⟨none, 0, hu.2⟩) hn
end ops
end
section
variable {P : Program} {tab : List (TypeId × TD)}
section ops
variable {ops : Array Oper} {rest : List Oper} {acc : List (List Nat × List Nat)} {S : St} {Q : List (List Nat × List Nat) → St → Prop} {dst : Option Tmp} {ty : TypeId} {pos : String} {after : Array Edge} {guard : Option (Nat × Bool)}
theorem AList.emptySl (T : tabOk P tab = true) {id : Nat} {t el : TypeId} {d e : TD} {parts : Array (Nat × Operand)} (hw : S.wants ops { dst := some id, op := .buildSlice t 0 parts, type := ty, pos, after, guard } = some true) (hd : dOk S.n (some id) = true) (hf : S.fr id = true)
 (ht : assoc tab t = some d) (hk : d.k = .sl el) (he : assoc tab el = some e) (hp : parts = #[])
 (hn : AList P ops rest (([id], [id, id]) :: acc) (S.eff (some id) ⟨.c (.ow id), [(id, some ⟨true, 0, e.size, el, zF e.zero⟩)], [id]⟩) Q) : AList P ops ({ dst := some id, op := .buildSlice t 0 parts, type := ty, pos, after, guard } :: rest) acc S Q :=
 AList.new (B := ⟨true, 0, e.size, el, zF e.zero⟩) [] hw hd hf (fun S1 h1 _ b0 σ a w R => by
  obtain ⟨inf, z, u, i1, i2, i3, i4, i5, i6, -⟩ := ty_info T he
  subst hp
  refine ⟨.slice (some ⟨w.heap.size, 0, none⟩) 0 0, 0, #[], ?_, .inl ⟨rfl, rfl, Nat.le_refl _, by simp [maxLen]⟩, by simp, fun k hk => absurd hk (Nat.not_lt_zero _), fun σ' O' w' h => rep_ow h⟩
  simp [execOp, Instr.buildSlice, run_underlying (ty_sl T ht hk), sizeOf, typeInfo, i1, Instr.fill, newRow]
  rw [show Array.map (fun _ => default) (Array.range 0) = (#[] : Array Value) from Array.ext' (by simp)]) hn

end ops
end
section
variable {P : Program} {tab : List (TypeId × TD)}
section ops
variable {ops : Array Oper} {rest : List Oper} {acc : List (List Nat × List Nat)} {S : St} {Q : List (List Nat × List Nat) → St → Prop} {dst : Option Tmp} {ty : TypeId} {pos : String} {after : Array Edge} {guard : Option (Nat × Bool)}
variable {x y : Operand} {xt yt : TypeId} {i j : Int}
end ops
section code
variable {next : St → Prop} {Q : Exit → St → Prop} {S : St} {id k : Nat}
theorem LeC.lz {h : Nat → Option AB} {ren : List (Nat × Option Nat)} {n n' sz : Nat} {F G : Nat → Nat → CV} (hn : n' = n) (hc : ∀ k, k < n → ∀ j, j < sz → F k j = G k j) : LeC h ren (.ls n sz F) (.ls n' sz G) := by
 subst hn
 exact .ls n' sz F G hc
end code
end
section
variable {P : Program}
section ops
variable {ops : Array Oper} {rest : List Oper} {acc : List (List Nat × List Nat)} {S : St} {Q : List (List Nat × List Nat) → St → Prop} {dst : Option Tmp} {ty xt yt : TypeId} {pos : String} {after : Array Edge} {guard : Option (Nat × Bool)} {x y : Operand} {tab : List (TypeId × TD)}
theorem AList.loadAE (T : tabOk P tab = true) {t : TypeId} {id sz k j : Nat} {B : AB} {d : TD} {l : List CV} (hl : cellsFrom (B.F k) j d.size = l) (hw : S.wants ops { dst, op := .load t x, type := ty, pos, after, guard } = some true) (hd : dOk S.n dst = true)
 (hx : S.opd x = some (.c (.pt id sz k j))) (hh : S.h id = some B) (hs : B.sz = sz) (ht : assoc tab t = some d) (hk : isAg d.k = true) (hkn : k < B.n) (hj : j + d.size ≤ B.sz)
 (hn : AList P ops rest (([id], []) :: acc) (S.eff dst ⟨.ag l, [], []⟩) Q) : AList P ops ({ dst, op := .load t x, type := ty, pos, after, guard } :: rest) acc S Q := by
 subst hl
 exact AList.loadA T hw hd hx hh hs ht hk hkn hj hn
end ops
section rows
variable {α : Type} {c : α → List CV} {z : α} {sz : Nat}
end rows
end
/- Short forms of what is printed often: proofs by default. -/
theorem qr7eo {A0 A1 A2 A3 A4 A5 A6 A7 A8 N G : Prop} (f : A0 → A1 → A2 → A3 → A4 → A5 → A6 → A7 → A8 → N → G) (hn : N) (h0 : A0 := by exact rfl) (h1 : A1 := by exact rfl) (h2 : A2 := by exact rfl) (h3 : A3 := by exact rfl) (h4 : A4 := by exact rfl) (h5 : A5 := by exact rfl) (h6 : A6 := by exact rfl) (h7 : A7 := by first | rfl | omega) (h8 : A8 := by exact oM) : G := f h0 h1 h2 h3 h4 h5 h6 h7 h8 hn
theorem qr9o2 {A0 A1 A2 A3 A4 A5 A6 A7 A8 A9 A10 N G : Prop} (f : A0 → A1 → A2 → A3 → A4 → A5 → A6 → A7 → A8 → A9 → A10 → N → G) (hn : N) (h0 : A0 := by exact rfl) (h1 : A1 := by exact rfl) (h2 : A2 := by exact rfl) (h3 : A3 := by exact rfl) (h4 : A4 := by exact rfl) (h5 : A5 := by exact rfl) (h6 : A6 := by exact rfl) (h7 : A7 := by exact rfl) (h8 : A8 := by exact rfl) (h9 : A9 := by exact oM) (h10 : A10 := by exact oM) : G := f h0 h1 h2 h3 h4 h5 h6 h7 h8 h9 h10 hn
theorem aY : type_of% @AWp.region := @AWp.region
section
variable {P : Program}
section ops
variable {ops : Array Oper} {rest : List Oper} {acc : List (List Nat × List Nat)} {S : St} {Q : List (List Nat × List Nat) → St → Prop} {dst : Option Tmp} {ty : TypeId} {pos : String} {after : Array Edge} {guard : Option (Nat × Bool)}
section
variable {tab : List (TypeId × TD)}
end
theorem AList.loadAF {tab : List (TypeId × TD)} (T : tabOk P tab = true) {t : TypeId} {x : Operand} {id sz k j : Nat} {B : AB} {d : TD} {l : List CV} (hw : S.wants ops { dst, op := .load t x, type := ty, pos, after, guard } = some true) (hd : dOk S.n dst = true)
 (hx : S.opd x = some (.c (.pt id sz k j))) (hh : S.h id = some B) (hs : B.sz = sz) (ht : assoc tab t = some d) (hk : isAg d.k = true) (hkn : k < B.n) (hj : j + d.size ≤ B.sz) (hl : cellsFrom (B.F k) j d.size = l)
 (hn : AList P ops rest (([id], []) :: acc) (S.eff dst ⟨.ag l, [], []⟩) Q) : AList P ops ({ dst, op := .load t x, type := ty, pos, after, guard } :: rest) acc S Q := AList.loadAE T hl hw hd hx hh hs ht hk hkn hj hn
end ops
end
end Go.AV
end
section
namespace Go.AV
open Go Go.RowKit Go.Flow
section
variable {P : Program}
variable {σ : Nat → Option Value} {O : Nat → Prop} {w : World} {u : Value} {n : Nat}
end
end Go.AV
namespace Go.Proofs.Ytekkldgmjdllbaa
open Go.RowKit Go.Flow Go.AV
theorem args3 {R : V1 → Value → Prop} {a b c : V1} {vals : List Value} (h : RepL R [a, b, c] vals) : ∃ x y z, vals = [x, y, z] ∧ R a x ∧ R b y ∧ R c z := by
 match vals, h with
 | [x, y, z], ⟨h1, h2, h3, _⟩ => exact ⟨x, y, z, rfl, h1, h2, h3⟩
end Go.Proofs.Ytekkldgmjdllbaa
end
section
namespace Go.Proofs.Ytekkldgmjdllbaa
open Go.RowKit Go.Flow Go.AV Go.Plain
theorem rlim1_A (n m : Int) : ACalls Try.prog 126 [.c (iC n), .c (iC m)] (.c (iC (lim1 n m))) := by
 refine acalls_at Try.func126 rfl rfl Try.ntmps126 rfl ?_
 repeat (first
  | refine uA ?_
  | refine uB ?_
  | refine uC ?_
  | refine uG ?_
  | refine uH ?_
  | refine AWp.ret ?_
  | refine thenA_e ?_
  | refine thenA_r ?_
  | refine uD ?_
  | refine uE ?_
  | refine uF ?_
  | refine inBlk_miss rfl ?_
  | refine kT ?_
  | refine kU ?_
  | refine AWp.scope (fun _ _ h => h) ?_
  | refine AWp.label ?_
  | (refine rG 0 ?_
     refine kC ?_
     refine aB ?_)
  | (refine rG 1 ?_
     (iterate 2 refine kA ?_)
     refine qr4 AList.minI ?_
     refine qr4 AList.maxI ?_
     refine kC ?_
     refine aB ?_))
 refine ⟨mkSt 9 [(4, .c (iC (lim1 n m)))] [] [], [], Wk.mk [] rfl rfl rfl ?_ trivial, rfl, rfl, aR1⟩
 exact allT
set_option maxRecDepth 100000 in
theorem rlim_A (x : Bg) : ACalls Try.prog 86 [.ag (bgC x)] (.ag (bgC (lim4 x))) := by
 refine acalls_at Try.func86 rfl rfl Try.ntmps86 rfl ?_
 repeat (first
  | refine uA ?_
  | refine uB ?_
  | refine uC ?_
  | refine uG ?_
  | refine uH ?_
  | refine AWp.ret ?_
  | refine thenA_e ?_
  | refine thenA_r ?_
  | refine uD ?_
  | refine uE ?_
  | refine uF ?_
  | refine inBlk_miss rfl ?_
  | refine kT ?_
  | refine kU ?_
  | refine AWp.scope (fun _ _ h => h) ?_
  | refine AWp.label ?_
  | (refine rG 0 ?_
     refine qr5 aQ ?_
     refine qr5 (aM tyOk) ?_
     refine aB ?_)
  | (refine AWp.draw (id := 1) mixed ?_; (first | refine kD ?_ | refine qr7 (AList.fieldPl tyOk) ?_); (first | refine kE ?_ | refine qr5o (aV tyOk) ?_); refine aH rfl rfl rfl rfl Try.func126 rfl (by kernel_rfl) (rlim1_A _ _) ?_; (first | refine kD ?_ | refine qr7 (AList.fieldPl tyOk) ?_); (first | refine kE ?_ | refine qr5o (aV tyOk) ?_); refine aH rfl rfl rfl rfl Try.func126 rfl (by kernel_rfl) (rlim1_A _ _) ?_; (first | refine kD ?_ | refine qr7 (AList.fieldPl tyOk) ?_); (first | refine kE ?_ | refine qr5o (aV tyOk) ?_); refine aH rfl rfl rfl rfl Try.func126 rfl (by kernel_rfl) (rlim1_A _ _) ?_; (first | refine kD ?_ | refine qr7 (AList.fieldPl tyOk) ?_); (first | refine kE ?_ | refine qr5o (aV tyOk) ?_); refine aH rfl rfl rfl rfl Try.func126 rfl (by kernel_rfl) (rlim1_A _ _) ?_; (first | refine qr8 (aX tyOk) ?_ | refine qr8 (AList.buildArr tyOk) ?_); refine kI ?_; refine aB ⟨by kernel_rfl, ?_⟩))
 refine ⟨mkSt 16 [(2, .c (.pt 2 4 0 0))] [(2, ⟨false, 1, 4, 33, lF (bgC (lim4 x))⟩)] [2], [(2, ⟨false, 1, 4, 33, lF (bgC (lim4 x))⟩)], Wk.mk [(2, some 2)] rfl rfl rfl ?_ ?_, rfl, rfl, ARets.one (x := .ag _) (ARes.box tyOk rfl rfl rfl rfl rfl rfl rfl)⟩
 ·exact allT
 ·exact allH
theorem rbCheck_A (W H : Int) (n : Nat) (dot : Nat → Bool) : ACalls Try.prog 94 [.ag (bmpV W H n dot)] (.c (iC (chk W H n))) :=
 ACalls.old rfl fun O w vals h => by
  obtain ⟨x, rfl, h1⟩ := args1 h
  obtain ⟨A, c, rfl, -, hA⟩ := rep_bmp h1
  exact Check_any W H A n c w
theorem Get_A (W H : Int) (n : Nat) (dot : Nat → Bool) (x y : Int) (hok : chk W H n = 0) : ACalls Try.prog 100 [.ag (bmpV W H n dot), .c (iC x), .c (iC y)] (.c (bC (hasB W H dot x y))) :=
 ACalls.old rfl fun O w vals h => by
  obtain ⟨b, x1, y1, rfl, h1, h2, h3⟩ := args3 h
  obtain ⟨A, c, rfl, -, hA⟩ := rep_bmp h1
  cases rep_c h2
  cases rep_c h3
  exact Get_any W H A n c dot x y w hok hA
set_option maxHeartbeats 1000000 in
set_option maxRecDepth 100000 in
theorem Shifts_A (m : Nat) (hm : m ≤ 4) : ACalls Try.prog 98 [.c (iC m)] (.c (.ls (shL m).length 2 (rowF mvC mvZ (shL m)))) := by
 refine acalls_at Try.func98 rfl rfl Try.ntmps98 rfl ?_
 repeat (first
  | refine uA ?_
  | refine uB ?_
  | refine uC ?_
  | (refine rG 0 ?_
     refine kC ?_
     refine aB ?_)
  | (refine rG 1 ?_
     refine kC ?_
     refine aB ?_)
  | (refine rG 2 ?_
     refine kC ?_
     refine aB ?_))
 refine AWp.round (fun t : Nat × List (Int × Int) => mkSt 45 [(0, .c (iC m)), (3, .c (.ow 20)), (4, .c (iC t.1))] [(20, ⟨true, t.2.length, 2, 59, rowF mvC mvZ t.2⟩)] [20])
  (fun t => t.1 ≤ 2 * m + 1 ∧ t.2 = shS m t.1 ∧ t.2.length ≤ 81 * t.1) (fun t => 2 * m + 1 - t.1) (0, []) ⟨Nat.zero_le _, rfl, Nat.zero_le _⟩ ?_ (fun t ht => ?_)
 ·refine Wk.mk [(20, none)] rfl rfl rfl ?_ ?_
  ·exact allT
  ·exact allH
 ·obtain ⟨s, L⟩ := t
  obtain ⟨hs, hL, hl⟩ := ht
  dsimp only at hs hL hl
  dsimp only
  by_cases hlts : s < 2 * m + 1
  ·repeat (first
    | refine uA ?_
    | refine uB ?_
    | refine uC ?_
    | refine uG ?_
    | refine kT ?_
    | (refine rG 3 ?_
       (iterate 2 refine kA ?_)
       refine qr4w2 AList.mul ?_
       refine qr5t aK ?_
       refine aB ?_)
    | (refine rG 5 ?_
       refine kA ?_
       refine qr3w2 AList.neg ?_
       refine kC ?_
       refine aB ?_))
   refine AWp.round (fun t : Nat × List (Int × Int) => mkSt 45 [(0, .c (iC m)), (3, .c (.ow 20)), (4, .c (iC s)), (5, .c (iC ((t.1 : Int) - m)))] [(20, ⟨true, t.2.length, 2, 59, rowF mvC mvZ t.2⟩)] [20])
    (fun t => t.1 ≤ 2 * m + 1 ∧ t.2 = shS m s ++ shM m s t.1 ∧ t.2.length ≤ 81 * s + 9 * t.1) (fun t => 2 * m + 1 - t.1) (0, L) ⟨Nat.zero_le _, by rw [hL]; exact (List.append_nil _).symm, by dsimp only; omega⟩ ?_ (fun t ht => ?_)
   ·refine Wk.mk [(20, some 20)] rfl rfl rfl ?_ ?_
    ·exact allT
    ·exact allH
   ·obtain ⟨i, L2⟩ := t
    obtain ⟨hi, hL2, hl2⟩ := ht
    dsimp only at hi hL2 hl2
    dsimp only
    by_cases hlti : i < 2 * m + 1
    ·repeat (first
      | refine uA ?_
      | refine uB ?_
      | refine uC ?_
      | refine uG ?_
      | refine kT ?_
      | (refine rG 6 ?_
         (iterate 2 refine kA ?_)
         refine qr5t aK ?_
         refine aB ?_)
      | (refine rG 8 ?_
         refine kA ?_
         refine qr3w2 AList.neg ?_
         refine kC ?_
         refine aB ?_))
     refine AWp.round (fun t : Nat × List (Int × Int) => mkSt 45 [(0, .c (iC m)), (3, .c (.ow 20)), (4, .c (iC s)), (5, .c (iC ((i : Int) - m))), (6, .c (iC ((t.1 : Int) - m)))] [(20, ⟨true, t.2.length, 2, 59, rowF mvC mvZ t.2⟩)] [20])
      (fun t => t.1 ≤ 2 * m + 1 ∧ t.2 = (shS m s ++ shM m s i) ++ shJ m s i t.1 ∧ t.2.length ≤ 81 * s + 9 * i + t.1) (fun t => 2 * m + 1 - t.1) (0, L2) ⟨Nat.zero_le _, by rw [hL2]; exact (List.append_nil _).symm, by dsimp only; omega⟩ ?_ (fun t ht => ?_)
     ·refine Wk.mk [(20, some 20)] rfl rfl rfl ?_ ?_
      ·exact allT
      ·exact allH
     ·obtain ⟨j, L3⟩ := t
      obtain ⟨hj, hL3, hl3⟩ := ht
      dsimp only at hj hL3 hl3
      dsimp only
      by_cases hltj : j < 2 * m + 1
      ·have hsu : shJ m s i (j + 1) = shJ m s i j ++ if shB m s i j then [((j : Int) - m, (i : Int) - m)] else [] := flat_succ _ _
       by_cases hb : max ((j : Int) - m) (-((j : Int) - m)) + max ((i : Int) - m) (-((i : Int) - m)) = (s : Int)
       ·rw [show shB m s i j = true from decide_eq_true hb, if_pos rfl] at hsu
        have hlen : (L3 ++ [((j : Int) - m, (i : Int) - m)]).length = L3.length + 1 := by simp
        repeat (first
         | refine uA ?_
         | refine uB ?_
         | refine uC ?_
         | refine uG ?_
         | refine uD ?_
         | refine kT ?_
         | (refine rG 9 ?_
            (iterate 2 refine kA ?_)
            refine qr5t aK ?_
            refine aB ?_)
         | (refine rG 10 ?_
            refine kA ?_
            refine qr4w2 aL ?_
            refine kC ?_
            refine aB ?_)
         | (refine rG 11 ?_
            (iterate 2 refine kA ?_)
            refine qr3w2 AList.neg ?_
            refine qr4 AList.maxI ?_
            (iterate 2 refine kA ?_)
            refine qr3w2 AList.neg ?_
            refine qr4 AList.maxI ?_
            refine qr4w2 aL ?_
            refine kA ?_
            refine qr5t aK ?_
            refine aB ?_)
         | (refine rG 12 ?_
            (iterate 3 refine kA ?_)
            refine qr8 (aX tyOk) ?_
            refine qr11 (AList.litSl tyOk) ?_
            refine AList.appL tyOk rfl rfl rfl rfl rfl rfl rfl rfl rfl rfl oM oM ?_
            refine kC ?_
            refine aB ?_))
        refine ⟨(j + 1, L3 ++ [((j : Int) - m, (i : Int) - m)]), ⟨by dsimp only; omega, by rw [hL3, hsu, List.append_assoc], by rw [hlen]; omega⟩, Wk.mk [(20, some 43)] rfl rfl rfl ?_ ?_, by dsimp only; omega⟩
        ·exact allT
        ·exact ⟨HeapOk.row rfl rfl hlen (row_snoc L3 ((j : Int) - m, (i : Int) - m) mvC_imm rfl), trivial⟩
       ·rw [show shB m s i j = false from decide_eq_false hb, if_neg (by decide), List.append_nil] at hsu
        repeat (first
         | refine uA ?_
         | refine uB ?_
         | refine uC ?_
         | refine uG ?_
         | refine uD ?_
         | refine kT ?_
         | refine kU ?_
         | (refine rG 9 ?_
            (iterate 2 refine kA ?_)
            refine qr5t aK ?_
            refine aB ?_)
         | (refine rG 10 ?_
            refine kA ?_
            refine qr4w2 aL ?_
            refine kC ?_
            refine aB ?_)
         | (refine rG 11 ?_
            (iterate 2 refine kA ?_)
            refine qr3w2 AList.neg ?_
            refine qr4 AList.maxI ?_
            (iterate 2 refine kA ?_)
            refine qr3w2 AList.neg ?_
            refine qr4 AList.maxI ?_
            refine qr4w2 aL ?_
            refine kA ?_
            refine qr5f aJ ?_
            refine aB ?_))
        refine ⟨(j + 1, L3), ⟨by dsimp only; omega, by rw [hL3, hsu], by dsimp only; omega⟩, Wk.mk [(20, some 20)] rfl rfl rfl ?_ ?_, by dsimp only; omega⟩
        ·exact allT
        ·exact allH
      ·obtain rfl : j = 2 * m + 1 := by omega
       have hsu : shM m s (i + 1) = shM m s i ++ shJ m s i (2 * m + 1) := flat_succ _ _
       repeat (first
        | refine uA ?_
        | refine uB ?_
        | refine uH ?_
        | refine thenA_e ?_
        | refine uD ?_
        | refine uF ?_
        | refine kU ?_
        | (refine rG 7 ?_
           refine kA ?_
           refine qr4w2 aL ?_
           refine kC ?_
           refine aB ?_)
        | (refine rG 9 ?_
           (iterate 2 refine kA ?_)
           refine qr5f aJ ?_
           refine aB ?_))
       refine ⟨(i + 1, L3), ⟨by dsimp only; omega, by rw [hL3, hsu, List.append_assoc], by dsimp only; omega⟩, Wk.mk [(20, some 20)] rfl rfl rfl ?_ ?_, by dsimp only; omega⟩
       ·exact allT
       ·exact allH
    ·obtain rfl : i = 2 * m + 1 := by omega
     have hsu : shS m (s + 1) = shS m s ++ shM m s (2 * m + 1) := flat_succ _ _
     repeat (first
      | refine uA ?_
      | refine uB ?_
      | refine uH ?_
      | refine thenA_e ?_
      | refine uD ?_
      | refine uF ?_
      | refine kU ?_
      | (refine rG 4 ?_
         refine kA ?_
         refine qr4w2 aL ?_
         refine kC ?_
         refine aB ?_)
      | (refine rG 6 ?_
         (iterate 2 refine kA ?_)
         refine qr5f aJ ?_
         refine aB ?_))
     refine ⟨(s + 1, L2), ⟨by dsimp only; omega, by rw [hL2, hsu], by dsimp only; omega⟩, Wk.mk [(20, some 20)] rfl rfl rfl ?_ ?_, by dsimp only; omega⟩
     ·exact allT
     ·exact allH
  ·obtain rfl : s = 2 * m + 1 := by omega
   subst hL
   repeat (first
    | refine uA ?_
    | refine uB ?_
    | refine uH ?_
    | refine AWp.ret ?_
    | refine kU ?_
    | (refine rG 3 ?_
       (iterate 2 refine kA ?_)
       refine qr4w2 AList.mul ?_
       refine qr5f aJ ?_
       refine aB ?_)
    | (refine rG 13 ?_
       refine kA ?_
       refine kC ?_
       refine aB ?_))
   refine ⟨mkSt 45 [(2, .c (.ls (shL m).length 2 (rowF mvC mvZ (shL m))))] [] [], [], Wk.mk [] rfl rfl rfl ?_ trivial, rfl, rfl, aR1⟩
   unfold shL
   exact allT
end Go.Proofs.Ytekkldgmjdllbaa
end
section
namespace Go.Proofs.Ytekkldgmjdllbaa
open Go.RowKit Go.Flow Go.AV Go.Plain Go.AV.Srt
set_option maxRecDepth 100000 in
theorem rlim24_A (x : Bg) : ACalls Try.prog 99 [.ag (bgC x)] (.ag (bgC (lim4 x))) := by
 have h := rlim_A x
 refine acalls_at Try.func99 rfl rfl Try.ntmps99 rfl ?_
 repeat (first
  | refine uA ?_
  | refine uB ?_
  | refine AWp.ret ?_
  | (refine rG 0 ?_
     refine qr5 aQ ?_
     refine qr5 (aM tyOk) ?_
     refine aB ?_)
  | (refine rG 1 ?_
     refine kF ?_
     refine aH rfl rfl rfl rfl Try.func86 rfl (by kernel_rfl) (h) ?_
     refine kI ?_
     refine aB ?_))
 refine ⟨mkSt 5 [(2, .c (.pt 2 4 0 0))] [(2, ⟨false, 1, 4, 33, lF (bgC (lim4 x))⟩)] [2], [(2, ⟨false, 1, 4, 33, lF (bgC (lim4 x))⟩)], Wk.mk [(2, some 2)] rfl rfl rfl ?_ ?_, rfl, rfl, ARets.one (x := .ag _) (ARes.box tyOk rfl rfl rfl rfl rfl rfl rfl)⟩
 ·exact allT
 ·exact allH
set_option maxRecDepth 100000 in
theorem rShifts_A (x y : Bg) : ACalls Try.prog 40 [.ag (bgC x), .ag (bgC y)] (.c (.ls (shL (shN x y)).length 2 (rowF mvC mvZ (shL (shN x y))))) := by
 obtain ⟨e, hm⟩ := shN_eq x y
 have h1 := rlim24_A x
 have h2 := rlim24_A y
 have h3 := Shifts_A (shN x y) hm
 rw [e] at h3
 have b1 := lim_bds x
 have b2 := lim_bds y
 generalize shN x y = m at *
 refine acalls_at Try.func40 rfl rfl Try.ntmps40 rfl ?_
 repeat (first
  | refine uA ?_
  | refine uB ?_
  | refine AWp.ret ?_
  | (refine rG 0 ?_
     (iterate 2 refine qr5 aQ ?_)
     refine kC ?_
     refine aB ?_)
  | (refine AWp.draw (id := 1) mixed ?_; refine kF ?_; refine aH rfl rfl rfl rfl Try.func99 rfl (by kernel_rfl) (h1) ?_; refine AList.field1 tyOk rfl rfl rfl Try.underlying33 rfl rfl rfl rfl ?_; refine kF ?_; refine aH rfl rfl rfl rfl Try.func99 rfl (by kernel_rfl) (h2) ?_; refine AList.field1 tyOk rfl rfl rfl Try.underlying33 rfl rfl rfl rfl ?_; refine qr4w2 aL ?_; refine aH rfl rfl rfl rfl Try.func98 rfl (by kernel_rfl) (h3) ?_; refine kC ?_; refine aB ⟨by kernel_rfl, ?_⟩))
 refine ⟨mkSt 13 [(4, .c (.ls (shL m).length 2 (rowF mvC mvZ (shL m))))] [] [], [], Wk.mk [] rfl rfl rfl ?_ trivial, rfl, rfl, aR1⟩
 exact allT
end Go.Proofs.Ytekkldgmjdllbaa
end
section
namespace Go.Proofs.Ytekkldgmjdllbaa
open Go.RowKit Go.Flow Go.AV Go.Plain
set_option maxRecDepth 100000 in
theorem Comparable_A (a b : Bp) : ACalls Try.prog 95 [.ag (bpC a), .ag (bpC b)] (.c (bC (decide (cmpOk a b)))) := by
 have h1 := rbCheck_A a.W a.H a.n a.d
 have h2 := rbCheck_A b.W b.H b.n b.d
 by_cases c1 : chk a.W a.H a.n = 0
 ·by_cases c2 : chk b.W b.H b.n = 0
  ·by_cases c3 : a.W = b.W
   ·by_cases c4 : a.H = b.H
    ·rw [show decide (cmpOk a b) = true from decide_eq_true ⟨c1, c2, c3, c4⟩]
     refine acalls_at Try.func95 rfl rfl Try.ntmps95 rfl ?_
     repeat (first
      | refine uA ?_
      | refine uB ?_
      | refine AWp.ret ?_
      | (refine rG 0 ?_
         (iterate 2 refine qr5 aQ ?_)
         refine kC ?_
         refine aB ?_)
      | (refine rG 1 ?_
         refine kF ?_
         refine aH rfl rfl rfl rfl Try.func94 rfl (by kernel_rfl) (h1) ?_
         refine qr5t aK ?_
         refine kA ?_
         refine kF ?_
         refine aH rfl rfl rfl rfl Try.func94 rfl (by kernel_rfl) (h2) ?_
         refine qr5t aK ?_
         refine qr4 aS ?_
         refine kA ?_
         refine kD ?_
         refine kE ?_
         refine kD ?_
         refine kE ?_
         refine qr5t aK ?_
         refine qr4 aS ?_
         refine kA ?_
         refine kD ?_
         refine kE ?_
         refine kD ?_
         refine kE ?_
         refine qr5t aK ?_
         refine qr4 aS ?_
         refine kC ?_
         refine aB ?_))
     refine ⟨mkSt 27 [(4, .c (bC true))] [] [], [], Wk.mk [] rfl rfl rfl ?_ trivial, rfl, rfl, aR1⟩
     exact allT
    ·rw [show decide (cmpOk a b) = false from decide_eq_false fun h => c4 h.2.2.2]
     refine acalls_at Try.func95 rfl rfl Try.ntmps95 rfl ?_
     repeat (first
      | refine uA ?_
      | refine uB ?_
      | refine AWp.ret ?_
      | (refine rG 0 ?_
         (iterate 2 refine qr5 aQ ?_)
         refine kC ?_
         refine aB ?_)
      | (refine rG 1 ?_
         refine kF ?_
         refine aH rfl rfl rfl rfl Try.func94 rfl (by kernel_rfl) (h1) ?_
         refine qr5t aK ?_
         refine kA ?_
         refine kF ?_
         refine aH rfl rfl rfl rfl Try.func94 rfl (by kernel_rfl) (h2) ?_
         refine qr5t aK ?_
         refine qr4 aS ?_
         refine kA ?_
         refine kD ?_
         refine kE ?_
         refine kD ?_
         refine kE ?_
         refine qr5t aK ?_
         refine qr4 aS ?_
         refine kA ?_
         refine kD ?_
         refine kE ?_
         refine kD ?_
         refine kE ?_
         refine qr5f aJ ?_
         refine qr4 aS ?_
         refine kC ?_
         refine aB ?_))
     refine ⟨mkSt 27 [(4, .c (bC false))] [] [], [], Wk.mk [] rfl rfl rfl ?_ trivial, rfl, rfl, aR1⟩
     exact allT
   ·rw [show decide (cmpOk a b) = false from decide_eq_false fun h => c3 h.2.2.1]
    refine acalls_at Try.func95 rfl rfl Try.ntmps95 rfl ?_
    repeat (first
     | refine uA ?_
     | refine uB ?_
     | refine AWp.ret ?_
     | (refine rG 0 ?_
        (iterate 2 refine qr5 aQ ?_)
        refine kC ?_
        refine aB ?_)
     | (refine rG 1 ?_
        refine kF ?_
        refine aH rfl rfl rfl rfl Try.func94 rfl (by kernel_rfl) (h1) ?_
        refine qr5t aK ?_
        refine kA ?_
        refine kF ?_
        refine aH rfl rfl rfl rfl Try.func94 rfl (by kernel_rfl) (h2) ?_
        refine qr5t aK ?_
        refine qr4 aS ?_
        refine kA ?_
        refine kD ?_
        refine kE ?_
        refine kD ?_
        refine kE ?_
        refine qr5f aJ ?_
        refine qr4 aS ?_
        refine kA ?_
        (iterate 5 refine qr2 aG ?_)
        refine qr4 aR ?_
        refine kC ?_
        refine aB ?_))
    refine ⟨mkSt 27 [(4, .c (bC false))] [] [], [], Wk.mk [] rfl rfl rfl ?_ trivial, rfl, rfl, aR1⟩
    exact allT
  ·rw [show decide (cmpOk a b) = false from decide_eq_false fun h => c2 h.2.1]
   refine acalls_at Try.func95 rfl rfl Try.ntmps95 rfl ?_
   repeat (first
    | refine uA ?_
    | refine uB ?_
    | refine AWp.ret ?_
    | (refine rG 0 ?_
       (iterate 2 refine qr5 aQ ?_)
       refine kC ?_
       refine aB ?_)
    | (refine rG 1 ?_
       refine kF ?_
       refine aH rfl rfl rfl rfl Try.func94 rfl (by kernel_rfl) (h1) ?_
       refine qr5t aK ?_
       refine kA ?_
       refine kF ?_
       refine aH rfl rfl rfl rfl Try.func94 rfl (by kernel_rfl) (h2) ?_
       refine qr5f aJ ?_
       refine qr4 aS ?_
       refine kA ?_
       (iterate 5 refine qr2 aG ?_)
       refine qr4 aR ?_
       refine kA ?_
       (iterate 5 refine qr2 aG ?_)
       refine qr4 aR ?_
       refine kC ?_
       refine aB ?_))
   refine ⟨mkSt 27 [(4, .c (bC false))] [] [], [], Wk.mk [] rfl rfl rfl ?_ trivial, rfl, rfl, aR1⟩
   exact allT
 ·rw [show decide (cmpOk a b) = false from decide_eq_false fun h => c1 h.1]
  refine acalls_at Try.func95 rfl rfl Try.ntmps95 rfl ?_
  repeat (first
   | refine uA ?_
   | refine uB ?_
   | refine AWp.ret ?_
   | (refine rG 0 ?_
      (iterate 2 refine qr5 aQ ?_)
      refine kC ?_
      refine aB ?_)
   | (refine rG 1 ?_
      refine kF ?_
      refine aH rfl rfl rfl rfl Try.func94 rfl (by kernel_rfl) (h1) ?_
      refine qr5f aJ ?_
      refine kA ?_
      (iterate 3 refine qr2 aG ?_)
      refine qr4 aR ?_
      refine kA ?_
      (iterate 5 refine qr2 aG ?_)
      refine qr4 aR ?_
      refine kA ?_
      (iterate 5 refine qr2 aG ?_)
      refine qr4 aR ?_
      refine kC ?_
      refine aB ?_))
  refine ⟨mkSt 27 [(4, .c (bC false))] [] [], [], Wk.mk [] rfl rfl rfl ?_ trivial, rfl, rfl, aR1⟩
  exact allT
set_option maxHeartbeats 2000000 in
set_option maxRecDepth 100000 in
theorem Only_A (a b : Bp) (dx dy fr ti : Int) (ha : chk a.W a.H a.n = 0) (hb : chk b.W b.H b.n = 0) (hx : -1000 ≤ dx ∧ dx ≤ 1000) (hy : -1000 ≤ dy ∧ dy ≤ 1000) :
 ACalls Try.prog 142 [.ag (bpC a), .ag (bpC b), .c (iC dx), .c (iC dy), .c (iC fr), .c (iC ti)] (.c (iC (onlyN a b dx dy fr ti))) := by
 have hC := rbCheck_A a.W a.H a.n a.d
 rw [ha] at hC
 obtain ⟨hw0, hw1, hh0, hh1, hn⟩ := okB ha
 obtain ⟨Wn, hWn⟩ := Int.eq_ofNat_of_zero_le hw0
 obtain ⟨Hn, hHn⟩ := Int.eq_ofNat_of_zero_le hh0
 have hon : onlyN a b dx dy fr ti = sumTo (fun j => cnt (onB a b dx dy fr ti j) Wn) Hn := by unfold onlyN; rw [hWn, hHn]; rfl
 rw [hon]
 have hsb : ∀ m, m ≤ Hn → 0 ≤ sumTo (fun j => cnt (onB a b dx dy fr ti j) Wn) m ∧ sumTo (fun j => cnt (onB a b dx dy fr ti j) Wn) m ≤ 96 * m := fun m hm => by
  refine ⟨sumTo_nonneg fun k _ => Go.Plain.cnt_nonneg _ _, ?_⟩
  induction m with
  | zero => exact Int.le_refl _
  | succ m ih =>
    have h1 := ih (by omega)
    have h2 := cnt_le (onB a b dx dy fr ti m) Wn
    show sumTo _ m + cnt _ Wn ≤ _
    omega
 rw [show bpC a = bmpV Wn Hn a.n a.d by show bmpV a.W a.H a.n a.d = _; rw [hWn, hHn]]
 have hG : ∀ i j : Int, ACalls Try.prog 100 [.ag (bmpV Wn Hn a.n a.d), .c (iC i), .c (iC j)] (.c (bC (hasB a.W a.H a.d i j))) := fun i j => by
  have := Get_A a.W a.H a.n a.d i j ha
  rw [hWn, hHn] at this ⊢
  exact this
 rw [show bmpV a.W a.H a.n a.d = bmpV Wn Hn a.n a.d by rw [hWn, hHn]] at hC
 have hW : (Wn : Int) ≤ 96 := by omega
 have hH : (Hn : Int) ≤ 96 := by omega
 refine acalls_at Try.func142 rfl rfl Try.ntmps142 rfl ?_
 repeat (first
  | refine uA ?_
  | refine uB ?_
  | refine uC ?_
  | (refine rG 0 ?_
     (iterate 2 refine qr5 aQ ?_)
     refine kC ?_
     refine aB ?_)
  | (refine rG 1 ?_
     refine kC ?_
     refine aB ?_)
  | (refine rG 2 ?_
     refine kC ?_
     refine aB ?_))
 refine AWp.round (fun j : Nat => mkSt 61 [(2, .c (iC dx)), (3, .c (iC dy)), (4, .c (iC fr)), (5, .c (iC ti)), (6, .c (.pt 6 3 0 0)), (7, .c (.pt 7 3 0 0)), (13, .c (iC (sumTo (fun j => cnt (onB a b dx dy fr ti j) Wn) j))), (14, .c (iC j))] [(6, ⟨false, 1, 3, 31, lF (bmpV Wn Hn a.n a.d)⟩), (7, ⟨false, 1, 3, 31, lF (bpC b)⟩)] [6, 7])
  (fun j => j ≤ Hn) (fun j => Hn - j) 0 (Nat.zero_le _) ?_ (fun j hj => ?_)
 ·refine Wk.mk [(6, some 6), (7, some 7)] rfl rfl rfl ?_ ?_
  ·exact allT
  ·exact allH
 ·by_cases hjl : j < Hn
  ·obtain ⟨s, hs⟩ : ∃ s, sumTo (fun j => cnt (onB a b dx dy fr ti j) Wn) j = s := ⟨_, rfl⟩
   have hs1 := hsb j hj
   rw [hs] at hs1
   have hsu : sumTo (fun j => cnt (onB a b dx dy fr ti j) Wn) (j + 1) = s + cnt (onB a b dx dy fr ti j) Wn := by rw [← hs]; rfl
   rw [hs]
   repeat (first
    | refine uA ?_
    | refine uB ?_
    | refine uC ?_
    | refine uG ?_
    | refine kT ?_
    | (refine rG 3 ?_
       refine kF ?_
       refine aH rfl rfl rfl rfl Try.func94 rfl (by kernel_rfl) (hC) ?_
       refine qr5 aW ?_
       (iterate 2 refine kA ?_)
       refine kD ?_
       refine kE ?_
       refine qr5t aK ?_
       refine qr4 aS ?_
       refine aB ?_)
    | (refine rG 5 ?_
       refine kC ?_
       refine aB ?_))
   refine AWp.round (fun i : Nat => mkSt 61 [(2, .c (iC dx)), (3, .c (iC dy)), (4, .c (iC fr)), (5, .c (iC ti)), (6, .c (.pt 6 3 0 0)), (7, .c (.pt 7 3 0 0)), (13, .c (iC (s + cnt (onB a b dx dy fr ti j) i))), (14, .c (iC j)), (15, .c (iC i))] [(6, ⟨false, 1, 3, 31, lF (bmpV Wn Hn a.n a.d)⟩), (7, ⟨false, 1, 3, 31, lF (bpC b)⟩)] [6, 7])
    (fun i => i ≤ Wn) (fun i => Wn - i) 0 (Nat.zero_le _) ?_ (fun i hi => ?_)
   ·refine Wk.mk [(6, some 6), (7, some 7)] rfl rfl rfl ?_ ?_
    ·rw [cnt_zero]
     exact allT
    ·exact allH
   ·obtain ⟨c, hc⟩ : ∃ c, cnt (onB a b dx dy fr ti j) i = c := ⟨_, rfl⟩
    have hcb : 0 ≤ c ∧ c ≤ i := by rw [← hc]; exact ⟨Go.Plain.cnt_nonneg _ _, cnt_le _ _⟩
    have hcs : cnt (onB a b dx dy fr ti j) (i + 1) = c + if onB a b dx dy fr ti j i then 1 else 0 := by rw [← hc]; exact cnt_succ _ _
    rw [hc]
    have hGa := hG i j
    have hGb := Get_A b.W b.H b.n b.d ((i : Int) - dx) ((j : Int) - dy) hb
    by_cases hil : i < Wn
    ·cases g1 : hasB a.W a.H a.d i j with
     | false =>
       rw [g1] at hGa
       rw [show onB a b dx dy fr ti j i = false by unfold onB; rw [g1]; rfl, if_neg (by decide)] at hcs
       repeat (first
        | refine uA ?_
        | refine uB ?_
        | refine uC ?_
        | refine uG ?_
        | refine uD ?_
        | refine kT ?_
        | refine kU ?_
        | (refine rG 6 ?_
           refine kA ?_
           refine kD ?_
           refine kE ?_
           refine qr5t aK ?_
           refine aB ?_)
        | (refine rG 7 ?_
           refine kA ?_
           refine qr4w2 aL ?_
           refine kC ?_
           refine aB ?_)
        | (refine rG 8 ?_
           refine kF ?_
           (iterate 2 refine kA ?_)
           refine aH rfl rfl rfl rfl Try.func100 rfl (by kernel_rfl) (hGa) ?_
           refine kA ?_
           (iterate 8 refine qr2 aG ?_)
           refine qr4 aR ?_
           refine kA ?_
           (iterate 9 refine qr2 aG ?_)
           refine qr4 aR ?_
           refine aB ?_))
       refine ⟨i + 1, hil, Wk.mk [(6, some 6), (7, some 7)] rfl rfl rfl ?_ ?_, by omega⟩
       ·rw [hcs]
        exact allT
       ·exact allH
     | true =>
       rw [g1] at hGa
       by_cases g2 : (i : Int) < fr
       ·cases g4 : hasB b.W b.H b.d ((i : Int) - dx) ((j : Int) - dy) with
        | false =>
          rw [g4] at hGb
          rw [show onB a b dx dy fr ti j i = true by unfold onB; rw [g1, g4, decide_eq_true g2]; rfl, if_pos rfl] at hcs
          repeat (first
           | refine uA ?_
           | refine uB ?_
           | refine uC ?_
           | refine uG ?_
           | refine uD ?_
           | refine kT ?_
           | (refine rG 6 ?_
              refine kA ?_
              refine kD ?_
              refine kE ?_
              refine qr5t aK ?_
              refine aB ?_)
           | (refine rG 7 ?_
              refine kA ?_
              refine qr4w2 aL ?_
              refine kC ?_
              refine aB ?_)
           | (refine rG 8 ?_
              refine kF ?_
              (iterate 2 refine kA ?_)
              refine aH rfl rfl rfl rfl Try.func100 rfl (by kernel_rfl) (hGa) ?_
              (iterate 3 refine kA ?_)
              refine qr5t aK ?_
              refine kA ?_
              (iterate 3 refine qr2 aG ?_)
              (iterate 2 refine qr4 aS ?_)
              refine kA ?_
              refine kF ?_
              (iterate 2 refine kA ?_)
              refine qr4w2 AList.sub ?_
              (iterate 2 refine kA ?_)
              refine qr4w2 AList.sub ?_
              refine aH rfl rfl rfl rfl Try.func100 rfl (by kernel_rfl) (hGb) ?_
              refine qr3 AList.notB ?_
              refine qr4 aS ?_
              refine aB ?_)
           | (refine rG 9 ?_
              refine kA ?_
              refine qr4w2 aL ?_
              refine kC ?_
              refine aB ?_))
          refine ⟨i + 1, hil, Wk.mk [(6, some 6), (7, some 7)] rfl rfl rfl ?_ ?_, by omega⟩
          ·rw [hcs]
           exact allT
          ·exact allH
        | true =>
          rw [g4] at hGb
          rw [show onB a b dx dy fr ti j i = false by unfold onB; rw [g1, g4]; simp, if_neg (by decide)] at hcs
          repeat (first
           | refine uA ?_
           | refine uB ?_
           | refine uC ?_
           | refine uG ?_
           | refine uD ?_
           | refine kT ?_
           | refine kU ?_
           | (refine rG 6 ?_
              refine kA ?_
              refine kD ?_
              refine kE ?_
              refine qr5t aK ?_
              refine aB ?_)
           | (refine rG 7 ?_
              refine kA ?_
              refine qr4w2 aL ?_
              refine kC ?_
              refine aB ?_)
           | (refine rG 8 ?_
              refine kF ?_
              (iterate 2 refine kA ?_)
              refine aH rfl rfl rfl rfl Try.func100 rfl (by kernel_rfl) (hGa) ?_
              (iterate 3 refine kA ?_)
              refine qr5t aK ?_
              refine kA ?_
              (iterate 3 refine qr2 aG ?_)
              (iterate 2 refine qr4 aS ?_)
              refine kA ?_
              refine kF ?_
              (iterate 2 refine kA ?_)
              refine qr4w2 AList.sub ?_
              (iterate 2 refine kA ?_)
              refine qr4w2 AList.sub ?_
              refine aH rfl rfl rfl rfl Try.func100 rfl (by kernel_rfl) (hGb) ?_
              refine qr3 AList.notB ?_
              refine qr4 aS ?_
              refine aB ?_))
          refine ⟨i + 1, hil, Wk.mk [(6, some 6), (7, some 7)] rfl rfl rfl ?_ ?_, by omega⟩
          ·rw [hcs]
           exact allT
          ·exact allH
       ·by_cases g3 : ti ≤ (i : Int)
        ·cases g4 : hasB b.W b.H b.d ((i : Int) - dx) ((j : Int) - dy) with
         | false =>
           rw [g4] at hGb
           rw [show onB a b dx dy fr ti j i = true by unfold onB; rw [g1, g4, decide_eq_true g3, Bool.or_true]; rfl, if_pos rfl] at hcs
           repeat (first
            | refine uA ?_
            | refine uB ?_
            | refine uC ?_
            | refine uG ?_
            | refine uD ?_
            | refine kT ?_
            | (refine rG 6 ?_
               refine kA ?_
               refine kD ?_
               refine kE ?_
               refine qr5t aK ?_
               refine aB ?_)
            | (refine rG 7 ?_
               refine kA ?_
               refine qr4w2 aL ?_
               refine kC ?_
               refine aB ?_)
            | (refine rG 8 ?_
               refine kF ?_
               (iterate 2 refine kA ?_)
               refine aH rfl rfl rfl rfl Try.func100 rfl (by kernel_rfl) (hGa) ?_
               (iterate 3 refine kA ?_)
               refine qr5f aJ ?_
               (iterate 3 refine kA ?_)
               refine qr5t aK ?_
               refine qr4 aR ?_
               refine qr4 aS ?_
               refine kA ?_
               refine kF ?_
               (iterate 2 refine kA ?_)
               refine qr4w2 AList.sub ?_
               (iterate 2 refine kA ?_)
               refine qr4w2 AList.sub ?_
               refine aH rfl rfl rfl rfl Try.func100 rfl (by kernel_rfl) (hGb) ?_
               refine qr3 AList.notB ?_
               refine qr4 aS ?_
               refine aB ?_)
            | (refine rG 9 ?_
               refine kA ?_
               refine qr4w2 aL ?_
               refine kC ?_
               refine aB ?_))
           refine ⟨i + 1, hil, Wk.mk [(6, some 6), (7, some 7)] rfl rfl rfl ?_ ?_, by omega⟩
           ·rw [hcs]
            exact allT
           ·exact allH
         | true =>
           rw [g4] at hGb
           rw [show onB a b dx dy fr ti j i = false by unfold onB; rw [g1, g4]; simp, if_neg (by decide)] at hcs
           repeat (first
            | refine uA ?_
            | refine uB ?_
            | refine uC ?_
            | refine uG ?_
            | refine uD ?_
            | refine kT ?_
            | refine kU ?_
            | (refine rG 6 ?_
               refine kA ?_
               refine kD ?_
               refine kE ?_
               refine qr5t aK ?_
               refine aB ?_)
            | (refine rG 7 ?_
               refine kA ?_
               refine qr4w2 aL ?_
               refine kC ?_
               refine aB ?_)
            | (refine rG 8 ?_
               refine kF ?_
               (iterate 2 refine kA ?_)
               refine aH rfl rfl rfl rfl Try.func100 rfl (by kernel_rfl) (hGa) ?_
               (iterate 3 refine kA ?_)
               refine qr5f aJ ?_
               (iterate 3 refine kA ?_)
               refine qr5t aK ?_
               refine qr4 aR ?_
               refine qr4 aS ?_
               refine kA ?_
               refine kF ?_
               (iterate 2 refine kA ?_)
               refine qr4w2 AList.sub ?_
               (iterate 2 refine kA ?_)
               refine qr4w2 AList.sub ?_
               refine aH rfl rfl rfl rfl Try.func100 rfl (by kernel_rfl) (hGb) ?_
               refine qr3 AList.notB ?_
               refine qr4 aS ?_
               refine aB ?_))
           refine ⟨i + 1, hil, Wk.mk [(6, some 6), (7, some 7)] rfl rfl rfl ?_ ?_, by omega⟩
           ·rw [hcs]
            exact allT
           ·exact allH
        ·rw [show onB a b dx dy fr ti j i = false by unfold onB; rw [g1, decide_eq_false g2, decide_eq_false g3]; rfl, if_neg (by decide)] at hcs
         repeat (first
          | refine uA ?_
          | refine uB ?_
          | refine uC ?_
          | refine uG ?_
          | refine uD ?_
          | refine kT ?_
          | refine kU ?_
          | (refine rG 6 ?_
             refine kA ?_
             refine kD ?_
             refine kE ?_
             refine qr5t aK ?_
             refine aB ?_)
          | (refine rG 7 ?_
             refine kA ?_
             refine qr4w2 aL ?_
             refine kC ?_
             refine aB ?_)
          | (refine rG 8 ?_
             refine kF ?_
             (iterate 2 refine kA ?_)
             refine aH rfl rfl rfl rfl Try.func100 rfl (by kernel_rfl) (hGa) ?_
             (iterate 3 refine kA ?_)
             refine qr5f aJ ?_
             (iterate 3 refine kA ?_)
             refine qr5f aJ ?_
             refine qr4 aR ?_
             refine qr4 aS ?_
             refine kA ?_
             (iterate 9 refine qr2 aG ?_)
             refine qr4 aR ?_
             refine aB ?_))
         refine ⟨i + 1, hil, Wk.mk [(6, some 6), (7, some 7)] rfl rfl rfl ?_ ?_, by omega⟩
         ·rw [hcs]
          exact allT
         ·exact allH
    ·obtain rfl : i = Wn := by omega
     repeat (first
      | refine uA ?_
      | refine uB ?_
      | refine uH ?_
      | refine thenA_e ?_
      | refine uD ?_
      | refine uF ?_
      | refine kU ?_
      | (refine rG 4 ?_
         refine kA ?_
         refine qr4w2 aL ?_
         refine kC ?_
         refine aB ?_)
      | (refine rG 6 ?_
         refine kA ?_
         refine kD ?_
         refine kE ?_
         refine qr5f aJ ?_
         refine aB ?_))
     refine ⟨j + 1, hjl, Wk.mk [(6, some 6), (7, some 7)] rfl rfl rfl ?_ ?_, by omega⟩
     ·rw [hsu, hc]
      exact allT
     ·exact allH
  ·obtain rfl : j = Hn := by omega
   repeat (first
    | refine uA ?_
    | refine uB ?_
    | refine uH ?_
    | refine AWp.ret ?_
    | refine kU ?_
    | (refine rG 3 ?_
       refine kF ?_
       refine aH rfl rfl rfl rfl Try.func94 rfl (by kernel_rfl) (hC) ?_
       refine qr5 aW ?_
       (iterate 2 refine kA ?_)
       refine kD ?_
       refine kE ?_
       refine qr5f aJ ?_
       refine qr4 aS ?_
       refine aB ?_)
    | (refine rG 10 ?_
       refine kA ?_
       refine kC ?_
       refine aB ?_))
   refine ⟨mkSt 61 [(12, .c (iC (sumTo (fun j => cnt (onB a b dx dy fr ti j) Wn) j)))] [] [], [], Wk.mk [] rfl rfl rfl ?_ trivial, rfl, rfl, aR1⟩
   exact allT
theorem clC_imm (c : Cl) : (clC c).all immC = true := rfl
theorem stN_lim (w : Int) (x y : Bg) : stN w (lim4 x) (lim4 y) = stN w x y := by unfold stN; rw [lim_idem, lim_idem]
theorem onlyN_bd (a b : Bp) (dx dy fr ti : Int) (ha : chk a.W a.H a.n = 0) : 0 ≤ onlyN a b dx dy fr ti ∧ onlyN a b dx dy fr ti ≤ 9216 := by
 obtain ⟨hw0, hw1, hh0, hh1, hn⟩ := okB ha
 unfold onlyN
 have : ∀ m : Nat, m ≤ 96 → 0 ≤ sumTo (fun j => cnt (onB a b dx dy fr ti j) a.W.toNat) m ∧ sumTo (fun j => cnt (onB a b dx dy fr ti j) a.W.toNat) m ≤ 96 * m := fun m hm => by
  refine ⟨sumTo_nonneg fun k _ => Go.Plain.cnt_nonneg _ _, ?_⟩
  induction m with
  | zero => exact Int.le_refl _
  | succ m ih =>
    have h1 := ih (by omega)
    have h2 := cnt_le (onB a b dx dy fr ti m) a.W.toNat
    show sumTo _ m + cnt _ a.W.toNat ≤ _
    omega
 have := this a.H.toNat (by omega)
 omega
set_option maxRecDepth 100000 in
theorem rStrip_A (w : Int) (x y : Bg) (h : 0 ≤ w ∧ w ≤ 96) : ACalls Try.prog 105 [.c (iC w), .ag (bgC x), .ag (bgC y)] (.c (iC (stN w x y))) := by
 have h1 := rlim24_A x
 have h2 := rlim24_A y
 have b1 := lim_bds x
 have b2 := lim_bds y
 refine acalls_at Try.func105 rfl rfl Try.ntmps105 rfl ?_
 repeat (first
  | refine uA ?_
  | refine uB ?_
  | refine AWp.ret ?_
  | (refine rG 0 ?_
     (iterate 2 refine qr5 aQ ?_)
     refine kC ?_
     refine aB ?_)
  | (refine AWp.draw (id := 1) mixed ?_; refine kA ?_; refine qr4w2 aL ?_; refine kF ?_; refine aH rfl rfl rfl rfl Try.func99 rfl (by kernel_rfl) (h1) ?_; refine AList.field1 tyOk rfl rfl rfl Try.underlying33 rfl rfl rfl rfl ?_; refine kF ?_; refine aH rfl rfl rfl rfl Try.func99 rfl (by kernel_rfl) (h2) ?_; refine AList.field1 tyOk rfl rfl rfl Try.underlying33 rfl rfl rfl rfl ?_; refine qr4 AList.maxI ?_; refine qr4 AList.minI ?_; refine kC ?_; refine aB ⟨by kernel_rfl, ?_⟩))
 refine ⟨mkSt 17 [(6, .c (iC (stN w x y)))] [] [], [], Wk.mk [] rfl rfl rfl ?_ trivial, rfl, rfl, aR1⟩
 exact allT
set_option maxRecDepth 100000 in
theorem Alone_A (a b : Bp) (c : Cl) (t : Int) (ha : chk a.W a.H a.n = 0) (hb : chk b.W b.H b.n = 0) (hx : -1000 ≤ c.dx ∧ c.dx ≤ 1000) (hy : -1000 ≤ c.dy ∧ c.dy ≤ 1000) (hc : -1000 ≤ c.col ∧ c.col ≤ 1000) (ht : 0 ≤ t ∧ t ≤ 16) :
 ACalls Try.prog 135 [.ag (bpC a), .ag (bpC b), .ag (clC c), .c (iC t)] (.tu [.c (iC (onlyN a b c.dx c.dy c.col (c.col + t))), .c (iC (onlyN b a (-c.dx) (-c.dy) (c.col - c.dx) (c.col - c.dx + t)))]) := by
 have h1 := Only_A a b c.dx c.dy c.col (c.col + t) ha hb hx hy
 have h2 := Only_A b a (-c.dx) (-c.dy) (c.col - c.dx) (c.col - c.dx + t) hb ha (by omega) (by omega)
 refine acalls_at Try.func135 rfl rfl Try.ntmps135 rfl ?_
 repeat (first
  | refine uA ?_
  | refine uB ?_
  | refine AWp.ret ?_
  | (refine rG 0 ?_
     (iterate 3 refine qr5 aQ ?_)
     (iterate 2 refine kC ?_)
     refine aB ?_)
  | (refine rG 1 ?_
     (iterate 2 refine kF ?_)
     refine kD ?_
     refine kE ?_
     refine kD ?_
     refine kE ?_
     refine kD ?_
     refine kE ?_
     refine kD ?_
     refine kE ?_
     refine kA ?_
     refine qr4w2 aL ?_
     refine aH rfl rfl rfl rfl Try.func142 rfl (by kernel_rfl) (h1) ?_
     refine kC ?_
     refine aB ?_)
  | (refine rG 2 ?_
     (iterate 2 refine kF ?_)
     refine kD ?_
     refine kE ?_
     refine qr3w2 AList.neg ?_
     refine kD ?_
     refine kE ?_
     refine qr3w2 AList.neg ?_
     refine kD ?_
     refine kE ?_
     refine kD ?_
     refine kE ?_
     refine qr4w2 AList.sub ?_
     refine kD ?_
     refine kE ?_
     refine kD ?_
     refine kE ?_
     refine qr4w2 AList.sub ?_
     refine kA ?_
     refine qr4w2 aL ?_
     refine aH rfl rfl rfl rfl Try.func142 rfl (by kernel_rfl) (h2) ?_
     refine kC ?_
     refine aB ?_)
  | (refine rG 3 ?_
     (iterate 2 refine kA ?_)
     (iterate 2 refine kC ?_)
     refine aB ?_))
 refine ⟨mkSt 48 [(8, .c (iC (onlyN a b c.dx c.dy c.col (c.col + t)))), (9, .c (iC (onlyN b a (-c.dx) (-c.dy) (c.col - c.dx) (c.col - c.dx + t))))] [] [], [], Wk.mk [] rfl rfl rfl ?_ trivial, rfl, rfl, ARets.two (x := .c _) (y := .c _) (ARes.tmp rfl rfl) (ARes.tmp rfl rfl)⟩
 exact allT
set_option maxHeartbeats 1000000 in
set_option maxRecDepth 100000 in
theorem rExcess_A (a b : Bp) (x y : Bg) (c : Cl) (ha : chk a.W a.H a.n = 0) (hb : chk b.W b.H b.n = 0) (hx : -1000 ≤ c.dx ∧ c.dx ≤ 1000) (hy : -1000 ≤ c.dy ∧ c.dy ≤ 1000) (hc : -1000 ≤ c.col ∧ c.col ≤ 1000) :
 ACalls Try.prog 97 [.ag (bpC a), .ag (bpC b), .ag (bgC x), .ag (bgC y), .ag (clC c)] (.c (iC (xsV a b x y c))) := by
 have h1 := rlim24_A x
 have h2 := rlim24_A y
 have b1 := lim_bds x
 have b2 := lim_bds y
 have hw := okB ha
 have hS := rStrip_A a.W (lim4 x) (lim4 y) ⟨hw.1, hw.2.1⟩
 rw [stN_lim] at hS
 have ht := stN_bd x y hw.1
 have hA := Alone_A a b c (stN a.W x y) ha hb hx hy hc (by omega)
 have e1 := onlyN_bd a b c.dx c.dy c.col (c.col + stN a.W x y) ha
 have e2 := onlyN_bd b a (-c.dx) (-c.dy) (c.col - c.dx) (c.col - c.dx + stN a.W x y) hb
 unfold xsV
 obtain ⟨m, hm⟩ : ∃ m, onlyN a b c.dx c.dy c.col (c.col + stN a.W x y) = m := ⟨_, rfl⟩
 obtain ⟨n, hn⟩ : ∃ n, onlyN b a (-c.dx) (-c.dy) (c.col - c.dx) (c.col - c.dx + stN a.W x y) = n := ⟨_, rfl⟩
 rw [hm, hn] at hA ⊢
 rw [hm] at e1
 rw [hn] at e2
 refine acalls_at Try.func97 rfl rfl Try.ntmps97 rfl ?_
 repeat (first
  | refine uA ?_
  | refine uB ?_
  | refine AWp.ret ?_
  | (refine rG 0 ?_
     (iterate 5 refine qr5 aQ ?_)
     refine kC ?_
     refine aB ?_)
  | (refine rG 1 ?_
     refine kF ?_
     refine aH rfl rfl rfl rfl Try.func99 rfl (by kernel_rfl) (h1) ?_
     refine kI ?_
     refine aB ?_)
  | (refine rG 2 ?_
     refine kF ?_
     refine aH rfl rfl rfl rfl Try.func99 rfl (by kernel_rfl) (h2) ?_
     refine kI ?_
     refine aB ?_)
  | (refine AWp.draw (id := 3) mixed ?_; (iterate 3 refine kF ?_); refine kD ?_; refine kE ?_; (iterate 2 refine kF ?_); refine aH rfl rfl rfl rfl Try.func105 rfl (by kernel_rfl) (hS) ?_; refine aH rfl rfl rfl rfl Try.func135 rfl (by kernel_rfl) (hA) ?_; refine kA ?_; (iterate 2 refine qr4 aN ?_); (iterate 2 refine kC ?_); refine aB ⟨by kernel_rfl, ?_⟩)
  | (refine rG 4 ?_
     refine kA ?_
     refine kD ?_
     refine kE ?_
     refine qr4w2 AList.sub ?_
     refine kD ?_
     refine kE ?_
     refine qr4w2 AList.sub ?_
     refine kA ?_
     refine kD ?_
     refine kE ?_
     refine qr4w2 AList.sub ?_
     refine kD ?_
     refine kE ?_
     refine qr4w2 AList.sub ?_
     refine qr4 AList.maxI ?_
     refine kC ?_
     refine aB ?_))
 refine ⟨mkSt 44 [(10, .c (iC (ovN x y m n)))] [] [], [], Wk.mk [] rfl rfl rfl ?_ trivial, rfl, rfl, aR1⟩
 exact allT
theorem alI_succ (m : Nat) (d : Int × Int) (k : Nat) : alI m d (k + 1) = alI m d k ++ [⟨d.1, d.2, (k : Int) - 4⟩] := by
 unfold alI
 rw [List.range_succ, List.map_append]
 rfl
theorem alK_take (w : Int) (x y : Bg) (L : List (Int × Int)) (k : Nat) (hk : k < L.length) : alK w x y (L.take (k + 1)) = alK w x y (L.take k) ++ alI 0 (L.getD k mvZ) (alM w x y) := by
 unfold alK
 rw [List.take_add_one, List.flatMap_append, List.getElem?_eq_getElem hk, List.getD_eq_getElem?_getD, List.getElem?_eq_getElem hk]
 simp
set_option maxHeartbeats 2000000 in
set_option maxRecDepth 100000 in
theorem All_A (w : Int) (x y : Bg) (hw : 0 ≤ w ∧ w ≤ 96) : ACalls Try.prog 96 [.c (iC w), .ag (bgC x), .ag (bgC y)] (.c (.ls (alL w x y).length 3 (rowF clC clZ (alL w x y)))) := by
 have hSh := rShifts_A x y
 have hSt := rStrip_A w x y hw
 have ht := stN_bd x y hw.1
 obtain ⟨-, hm4⟩ := shN_eq x y
 have hM : ((alM w x y : Nat) : Int) = w + 9 - stN w x y := by unfold alM; omega
 have hbd : ∀ k, k < (shL (shN x y)).length → _ := fun k hk => sh_bd hk
 have hSl : (shL (shN x y)).length ≤ 81 := by
  rw [shL_len hm4]
  have := Nat.mul_le_mul (show 2 * shN x y + 1 ≤ 9 by omega) (show 2 * shN x y + 1 ≤ 9 by omega)
  omega
 have htake : ∀ k, k < (shL (shN x y)).length → alK w x y ((shL (shN x y)).take (k + 1)) = alK w x y ((shL (shN x y)).take k) ++ alI 0 ((shL (shN x y)).getD k mvZ) (alM w x y) := fun k hk => alK_take w x y _ k hk
 have hall : alL w x y = alK w x y ((shL (shN x y)).take (shL (shN x y)).length) := by unfold alL; rw [List.take_length]
 rw [hall]
 generalize shL (shN x y) = S at *
 generalize stN w x y = t at *
 generalize alM w x y = M at *
 generalize hAK : alK w x y = AK at htake hall ⊢
 generalize hnl : S.length = n at hSh hbd hSl htake hall ⊢
 refine acalls_at Try.func96 rfl rfl Try.ntmps96 rfl ?_
 repeat (first
  | refine uA ?_
  | refine uB ?_
  | refine uC ?_
  | (refine rG 0 ?_
     (iterate 2 refine qr5 aQ ?_)
     refine kC ?_
     refine aB ?_)
  | (refine rG 1 ?_
     refine kC ?_
     refine aB ?_)
  | (refine rG 2 ?_
     (iterate 2 refine kF ?_)
     refine aH rfl rfl rfl rfl Try.func40 rfl (by kernel_rfl) (hSh) ?_
     refine kC ?_
     refine aB ?_)
  | (refine rG 3 ?_
     refine kA ?_
     refine qr4w2 aL ?_
     refine kA ?_
     (iterate 2 refine kF ?_)
     refine aH rfl rfl rfl rfl Try.func105 rfl (by kernel_rfl) (hSt) ?_
     refine qr4w2 AList.sub ?_
     refine kC ?_
     refine aB ?_)
  | (refine rG 4 ?_
     refine kC ?_
     refine aB ?_))
 refine AWp.round (fun s : Nat × List Cl => mkSt 49 [(7, .c (.ow 20)), (8, .c (.ls n 2 (rowF mvC mvZ S))), (9, .c (iC (w + 4 - t))), (10, .c (iC s.1))] [(20, ⟨true, s.2.length, 3, 53, rowF clC clZ s.2⟩)] [20])
  (fun s => s.1 ≤ n ∧ s.2 = AK (S.take s.1) ∧ s.2.length = M * s.1) (fun s => n - s.1) (0, []) ⟨Nat.zero_le _, by rw [List.take_zero, ← hAK]; rfl, by simp⟩ ?_ (fun s hs => ?_)
 ·refine Wk.mk [(20, none)] rfl rfl rfl ?_ ?_
  ·exact allT
  ·exact allH
 ·obtain ⟨k, L⟩ := s
  obtain ⟨hk, hL, hl⟩ := hs
  dsimp only at hk hL hl
  dsimp only
  by_cases hkn : k < n
  ·have hb := hbd k hkn
   have hMk : M * k ≤ 105 * 81 := Nat.mul_le_mul (by omega) (by omega)
   obtain ⟨d, hd⟩ : ∃ d, S.getD k mvZ = d := ⟨_, rfl⟩
   have htk := htake k hkn
   rw [hd] at htk
   repeat (first
    | refine uA ?_
    | refine uB ?_
    | refine uC ?_
    | refine uG ?_
    | refine kT ?_
    | (refine rG 5 ?_
       (iterate 2 refine kA ?_)
       refine qr5 (aO tyOk) ?_
       refine qr5t aK ?_
       refine aB ?_)
    | (refine rG 7 ?_
       refine kC ?_
       refine aB ?_))
   refine AWp.round (fun s : Nat × List Cl => mkSt 49 [(7, .c (.ow 20)), (8, .c (.ls n 2 (rowF mvC mvZ S))), (9, .c (iC (w + 4 - t))), (10, .c (iC k)), (11, .c (iC ((s.1 : Int) - 4)))] [(20, ⟨true, s.2.length, 3, 53, rowF clC clZ s.2⟩)] [20])
    (fun s => s.1 ≤ M ∧ s.2 = AK (S.take k) ++ alI 0 d s.1 ∧ s.2.length = M * k + s.1) (fun s => M - s.1) (0, L) ⟨Nat.zero_le _, by rw [hL]; exact (List.append_nil _).symm, hl⟩ ?_ (fun s hs => ?_)
   ·refine Wk.mk [(20, some 20)] rfl rfl rfl ?_ ?_
    ·exact allT
    ·exact allH
   ·obtain ⟨i, L2⟩ := s
    obtain ⟨hi, hL2, hl2⟩ := hs
    dsimp only at hi hL2 hl2
    dsimp only
    by_cases hiM : i < M
    ·have hlen : (L2 ++ [(⟨d.1, d.2, (i : Int) - 4⟩ : Cl)]).length = L2.length + 1 := by simp
     repeat (first
      | refine uA ?_
      | refine uB ?_
      | refine uC ?_
      | refine uG ?_
      | refine uD ?_
      | refine kT ?_
      | (refine rG 8 ?_
         (iterate 2 refine kA ?_)
         refine qr5t aK ?_
         refine aB ?_)
      | (refine rG 9 ?_
         refine kA ?_
         refine qr4w2 aL ?_
         refine kC ?_
         refine aB ?_)
      | (refine AWp.draw (id := 10) mixed ?_; (iterate 3 refine kA ?_); refine qr8eo2 (aP (k := k) tyOk) ?_; refine qr7 (AList.fieldPl tyOk) ?_; refine qr5o (aV tyOk) ?_; (iterate 2 refine kA ?_); refine qr8eo2 (aP (k := k) tyOk) ?_; refine qr7 (AList.fieldPl tyOk) ?_; refine qr5o (aV tyOk) ?_; refine kA ?_; refine qr8 (aX tyOk) ?_; refine qr11 (AList.litSl tyOk) ?_; refine AList.appL tyOk rfl rfl rfl rfl rfl rfl rfl rfl rfl rfl oM oM ?_; refine kC ?_; refine aB ⟨by kernel_rfl, ?_⟩))
     refine ⟨(i + 1, L2 ++ [⟨d.1, d.2, (i : Int) - 4⟩]), ⟨by dsimp only; omega, by rw [hL2, alI_succ, List.append_assoc], by rw [hlen]; dsimp only; omega⟩, Wk.mk [(20, some 47)] rfl rfl rfl ?_ ?_, by dsimp only; omega⟩
     ·exact allT
     ·rw [← hd]
      exact ⟨HeapOk.row rfl rfl (by simp) (row_snoc L2 (⟨(S.getD k mvZ).1, (S.getD k mvZ).2, (i : Int) - 4⟩ : Cl) clC_imm rfl), trivial⟩
    ·obtain rfl : i = M := by omega
     repeat (first
      | refine uA ?_
      | refine uB ?_
      | refine uH ?_
      | refine thenA_e ?_
      | refine uD ?_
      | refine uF ?_
      | refine kU ?_
      | (refine rG 6 ?_
         refine kA ?_
         refine qr4w2 aL ?_
         refine kC ?_
         refine aB ?_)
      | (refine rG 8 ?_
         (iterate 2 refine kA ?_)
         refine qr5f aJ ?_
         refine aB ?_))
     refine ⟨(k + 1, L2), ⟨by dsimp only; omega, by rw [hL2, htk], by dsimp only; rw [hl2, Nat.mul_succ]⟩, Wk.mk [(20, some 20)] rfl rfl rfl ?_ ?_, by dsimp only; omega⟩
     ·exact allT
     ·exact allH
  ·obtain rfl : k = n := by omega
   subst hL
   repeat (first
    | refine uA ?_
    | refine uB ?_
    | refine uH ?_
    | refine AWp.ret ?_
    | refine kU ?_
    | (refine rG 5 ?_
       (iterate 2 refine kA ?_)
       refine qr5 (aO tyOk) ?_
       refine qr5f aJ ?_
       refine aB ?_)
    | (refine rG 11 ?_
       refine kA ?_
       refine kC ?_
       refine aB ?_))
   refine ⟨mkSt 49 [(6, .c (.ls (AK (S.take k)).length 3 (rowF clC clZ (AK (S.take k)))))] [] [], [], Wk.mk [] rfl rfl rfl ?_ trivial, rfl, rfl, aR1⟩
   exact allT
end Go.Proofs.Ytekkldgmjdllbaa
end
