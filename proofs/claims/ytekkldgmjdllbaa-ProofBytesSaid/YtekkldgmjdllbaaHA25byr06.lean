/- Parts of the proof: AGoto, A25bf, A25bg, A25bh. -/
import Derived.Test.YtekkldgmjdllbaaG22
import Derived.Test.YtekkldgmjdllbaaG04
import Derived.Scope
import Derived.Test.YtekkldgmjdllbaaG03
import Derived.RangeFuncLeaves
import Derived.RangeFuncRecord
import Derived.Test.YtekkldgmjdllbaaG02
import Derived.Test.YtekkldgmjdllbaaG01
import Derived.Deep.AppendLies
import Derived.OrdersIn
import Derived.TacticsIn
import Derived.RangeFuncCalls
import Derived.Maps.AppendAt
import Derived.OwnWalk
import Derived.StillTail
import Derived.Below
import Derived.Deep.Draws
import Derived.WalkKit
import Derived.KernelRfl
import Derived.Test.YtekkldgmjdllbaaHA25byr03
import Derived.Test.YtekkldgmjdllbaaHA25byr05
import Derived.Test.YtekkldgmjdllbaaG36
import Derived.Test.YtekkldgmjdllbaaG31
import Derived.Laws.Pointers
import Derived.Test.YtekkldgmjdllbaaG37
import Derived.Test.YtekkldgmjdllbaaG23
import Derived.Lib.Builder
import Derived.Lib.UnsafeStr
import Derived.Laws.Externs
import Derived.Lib.BufferRead
import Derived.Test.YtekkldgmjdllbaaG28
import Derived.WideKeyMaps
import Derived.MapKept
import Derived.Carry
import Derived.Test.YtekkldgmjdllbaaG30
import Derived.Test.YtekkldgmjdllbaaG07
import Derived.Test.YtekkldgmjdllbaaHA25byr01
import Derived.Test.YtekkldgmjdllbaaG20
import Derived.Test.YtekkldgmjdllbaaG06
import Derived.Test.YtekkldgmjdllbaaG08
import Derived.Test.YtekkldgmjdllbaaG09
import Derived.Test.YtekkldgmjdllbaaG35
import Derived.Test.YtekkldgmjdllbaaG29
import Derived.Shelf.Abstract
import Derived.Test.YtekkldgmjdllbaaG33
import Derived.Laws.StructEq
import Derived.Test.YtekkldgmjdllbaaG05
import Derived.Great.BuildSlice
import Derived.Laws.Cover3
import Derived.RangeFuncNested
import Derived.Test.YtekkldgmjdllbaaG32
import Derived.Test.YtekkldgmjdllbaaG34
import Derived.Test.YtekkldgmjdllbaaG21
import Derived.Test.YtekkldgmjdllbaaG17
import Derived.Test.YtekkldgmjdllbaaG27
import Derived.Test.YtekkldgmjdllbaaG19
import Derived.Test.YtekkldgmjdllbaaG16
import Derived.Test.YtekkldgmjdllbaaG18
import Derived.Test.YtekkldgmjdllbaaProg
import Derived.Test.YtekkldgmjdllbaaG11
import Derived.Test.YtekkldgmjdllbaaG13
import Derived.Test.YtekkldgmjdllbaaG15
import Derived.Lib.Hide
import Derived.Deep.QuietTactic
import Derived.BigQuiet
import Derived.Deep.DrawnRows
import Derived.Test.YtekkldgmjdllbaaG12
import Derived.Test.YtekkldgmjdllbaaG10
import Derived.Test.YtekkldgmjdllbaaG14
set_option linter.unusedSimpArgs false
set_option linter.unusedVariables false
section
namespace Go.AV
open Go Go.RowKit Go.Flow
section
variable {F : Fence} {n : Nat} {P : Program} {Q : Exit → Act → World → Prop} {a : Act} {w : World}
def Exit.jump (l : Nat) (next : Act → World → Prop) (Q : Exit → Act → World → Prop) : Exit → Act → World → Prop
 | .goto k, a, w => bif Nat.beq k l then next a w else Q (.goto k) a w
 | e, a, w => Q e a w
theorem scope_leave {b : Frame} {k : List Item} {cs : List Frame} {c : Code} {m : Machine} {e : Exit} {a₁ : Act} {w₁ : World} (hg : ∀ l, e ≠ .goto l) (hb : F.fn b.fn) (hr : F.room (cs.length + 1 + n))
 (harr : ArrivesIn (Machine.fenced P F) P m b (.inScope c :: k) cs e a₁ w₁) : ArrivesIn (Machine.fenced P F) P m b k cs e a₁ w₁ := by
 cases e with
 | normal => exact StepsIn.trans harr (.one (fenced_calm hb hr rfl) stepR_inScope')
 | exit id =>
   have hx : exitTo id (.inScope c :: k) = exitTo id k := by simp [exitTo]
   exact ⟨fun k' hk => harr.1 k' (by rw [hx]; exact hk), fun hr1 hk => harr.2 hr1 (by rw [hx]; exact hk)⟩
 | goto l => exact (hg l rfl).elim
 | ret => exact harr
 | panic ch => exact harr
 | outgrown => exact harr
theorem wpIn_scopeJ {c rest : Code} {l : Nat} (hf : findLabel c l = some rest) (hg : ∀ k a w, ¬ Q (.goto k) a w) (h : c.wpIn F n P (Exit.jump l (rest.wpIn F n P Q) Q) a w) : (Code.scope c).wpIn F n P Q a w := by
 intro b k cs hro hb hr
 have h0 : (lone (b.atR a (.code (.scope c) :: k)) cs w).fenced P F := fenced_calm hb hr rfl
 obtain ⟨e, a₁, w₁, hq, harr⟩ := h b (.inScope c :: k) cs hro hb hr
 by_cases hgo : ∃ m, e = .goto m
 ·obtain ⟨m, rfl⟩ := hgo
  have hm : m = l := Classical.byContradiction fun hne => by
   simp only [Exit.jump] at hq
   rw [show Nat.beq m l = false from by cases hb' : Nat.beq m l with | false => rfl | true => exact (hne (Nat.eq_of_beq_eq_true hb')).elim] at hq
   exact hg _ _ _ hq
  subst hm
  have hq' : rest.wpIn F n P Q a₁ w₁ := by
   simp only [Exit.jump] at hq
   rw [show Nat.beq m m = true from Nat.beq_refl m] at hq
   exact hq
  have hgi : gotoIn m (.inScope c :: k) = some (.code rest :: .inScope c :: k) := by simp [gotoIn, hf]
  obtain ⟨e₂, a₂, w₂, hq₂, harr₂⟩ := hq' b (.inScope c :: k) cs hro hb hr
  have hng : ∀ j, e₂ ≠ .goto j := fun j he => hg j a₂ w₂ (he ▸ hq₂)
  exact ⟨e₂, a₂, w₂, hq₂, .of_steps (.head h0 stepR_scope' (harr.1 _ hgi)) (scope_leave hng hb hr harr₂)⟩
 ·have hng : ∀ j, e ≠ .goto j := fun j he => hgo ⟨j, he⟩
  have hq' : Q e a₁ w₁ := by
   cases e with
   | goto j => exact (hng j rfl).elim
   | _ => exact hq
  exact ⟨e, a₁, w₁, hq', .of_steps (.one h0 stepR_scope') (scope_leave hng hb hr harr)⟩
end
def gotoA (l : Nat) (next : St → Prop) (Q : Exit → St → Prop) : Exit → St → Prop
 | .goto k, S => bif Nat.beq k l then next S else Q (.goto k) S
 | e, S => Q e S
section
variable {P : Program} {S : St} {Q : Exit → St → Prop}
theorem AWp.scopeJ (l : Nat) {c rest : Code} (hf : findLabel c l = some rest) (hg : ∀ k S, ¬ Q (.goto k) S) (h : AWp P c (gotoA l (AWp P rest Q) Q) S) : AWp P (.scope c) Q S := ⟨fun b0 a w hR =>
 wpIn_scopeJ hf (fun _ _ _ ⟨_, _, h⟩ => hg _ _ h) (wpIn_mono (h.get b0 a w hR) fun e a w ⟨S', h1, h2⟩ => by
  cases e with
  | goto k =>
    simp only [Exit.jump]
    simp only [gotoA] at h2
    cases hb : Nat.beq k l with
    | true => rw [hb] at h2; exact (AWp.get h2) _ _ _ h1
    | false => rw [hb] at h2; exact (hg _ _ h2).elim
  | _ => exact ⟨S', h1, h2⟩)⟩
theorem AWp.goto {l : Nat} (h : Q (.goto l) S) : AWp P (.goto l) Q S := ⟨fun b0 a w hR => wpIn_goto ⟨S, hR, h⟩⟩
variable {next : St → Prop} {l : Nat}
theorem thenA_g (h : Q (.goto l) S) : thenA next Q (.goto l) S := h
theorem gotoA_g (h : next S) : gotoA l next Q (.goto l) S := by
 simp only [gotoA]
 rw [show Nat.beq l l = true from Nat.beq_refl l]
 exact h
theorem gotoA_r (h : Q .ret S) : gotoA l next Q .ret S := h
end
end Go.AV
end
section
namespace Go.Proofs.Ytekkldgmjdllbaa
open Go.RowKit Go.Flow Go.AV Go.Plain
abbrev rsC : Rst → List CV
 | none => [byV [], bC true]
 | some s => [byV s, bC false]
abbrev rsB (r : Rst) : AB := ⟨false, 1, 2, 177, lF (rsC r)⟩
theorem rs_imm (r : Rst) : ∀ j, j < 2 → immC (lF (rsC r) 0 j) = true := fun j hj => by
 cases r <;> match j, hj with
 | 0, _ => rfl
 | 1, _ => rfl
theorem rs_lend {S : St} {ids mids : List Nat} {p : Nat} {r : Rst} (hp : S.h p = some (rsB r)) : LendOkM S ids mids [p] [rsB r] :=
 ⟨⟨_, hp, (fun h => by cases h), fun k hk j hj => by
   obtain rfl : k = 0 := Nat.lt_one_iff.mp hk
   exact .b (.imm _ (rs_imm r j hj))⟩, trivial⟩
theorem rs_back {ids ni : List Nat} {r : Rst} : BackBM ids ni [rsB r] [rsB r] :=
 ⟨⟨_, rfl, fun k hk j hj => by
   obtain rfl : k = 0 := Nat.lt_one_iff.mp hk
   exact .b (.imm _ (rs_imm r j hj))⟩, trivial⟩
theorem rs_new {ids ni : List Nat} {r : Rst} : BackB ids ni [rsB r] [rsB r] :=
 ⟨⟨_, rfl, fun k hk j hj => by
   obtain rfl : k = 0 := Nat.lt_one_iff.mp hk
   exact .imm _ (rs_imm r j hj)⟩, trivial⟩
theorem rs_heap {S : St} {ren : List (Nat × Option Nat)} {F : Nat → Nat → CV} {r : Rst} (hh : S.h 1000 = some ⟨false, 1, 2, 177, F⟩) (hc : cellsFrom (F 0) 0 2 = rsC r) : HeapOk S ren 1000 (rsB r) := by
 cases r <;> exact HeapOk.lent rfl hh hc rfl
set_option maxRecDepth 100000 in
theorem New_M (s : List UInt8) : GMCalls Try.prog 70 [.c (byV s)] [] [] (.c (.pt 900 2 0 0)) [] [rsB (some s)] := by
 refine gm_at Try.func70 rfl rfl Try.ntmps70 rfl ?_
 repeat (first
  | refine uA ?_
  | refine uB ?_
  | refine AWp.ret ?_
  | (refine rG 0 ?_
     refine kC ?_
     refine aB ?_)
  | (refine rG 1 ?_
     refine kA ?_
     refine qr8 (aX tyOk) ?_
     refine qr5 aQ ?_
     refine kC ?_
     refine aB ?_))
 refine ⟨mkSt 6 [(2, .c (.pt 900 2 0 0))] [(900, rsB (some s))] [900], [], _, [], [rsB (some s)], ⟨rfl, rfl, rfl⟩, rfl, Wk.mk [(900, some 5)] rfl rfl rfl ?_ ?_, rfl, rfl, GRets.one (x := .c _) (GRes.tmp rfl)⟩
 ·exact allT
 ·exact allH
set_option maxRecDepth 100000 in
theorem Bad_M (r : Rst) : GMCalls Try.prog 72 [.c (.pt 1000 2 0 0)] [rsB r] [] (.c (bC r.isNone)) [rsB r] [] := by
 cases r with
 | none =>
   refine gm_at Try.func72 rfl rfl Try.ntmps72 rfl ?_
   repeat (first
    | refine uA ?_
    | refine uB ?_
    | refine AWp.ret ?_
    | (refine rG 0 ?_
       refine kC ?_
       refine aB ?_)
    | (refine rG 1 ?_
       refine kA ?_
       refine AList.ptNilF rfl rfl rfl rfl (ptr_under Try.underlying135) ?_
       (iterate 2 refine kA ?_)
       refine AList.nilPt rfl rfl rfl rfl ?_
       refine kD ?_
       refine kE ?_
       refine qr4 aR ?_
       refine kC ?_
       refine aB ?_))
   refine ⟨mkL 11 1 [(2, .c (bC true))] [(1000, rsB (none))] [], [], _, [rsB (none)], [], ⟨rfl, rfl, rfl⟩, rfl, Wk.mkL [] rfl rfl rfl rfl rfl ?_ ⟨rs_heap rfl rfl, trivial⟩, rfl, rfl, GRets.one (x := .c _) (GRes.tmp rfl)⟩
   exact allT
 | some s =>
   refine gm_at Try.func72 rfl rfl Try.ntmps72 rfl ?_
   repeat (first
    | refine uA ?_
    | refine uB ?_
    | refine AWp.ret ?_
    | (refine rG 0 ?_
       refine kC ?_
       refine aB ?_)
    | (refine rG 1 ?_
       refine kA ?_
       refine AList.ptNilF rfl rfl rfl rfl (ptr_under Try.underlying135) ?_
       (iterate 2 refine kA ?_)
       refine AList.nilPt rfl rfl rfl rfl ?_
       refine kD ?_
       refine kE ?_
       refine qr4 aR ?_
       refine kC ?_
       refine aB ?_))
   refine ⟨mkL 11 1 [(2, .c (bC false))] [(1000, rsB (some s))] [], [], _, [rsB (some s)], [], ⟨rfl, rfl, rfl⟩, rfl, Wk.mkL [] rfl rfl rfl rfl rfl ?_ ⟨rs_heap rfl rfl, trivial⟩, rfl, rfl, GRets.one (x := .c _) (GRes.tmp rfl)⟩
   exact allT
set_option maxRecDepth 100000 in
theorem fail_M (r : Rst) : GMCalls Try.prog 121 [.c (.pt 1000 2 0 0)] [rsB r] [] (.tu []) [rsB none] [] := by
 cases r with
 | none =>
   refine gm_at Try.func121 rfl rfl Try.ntmps121 rfl ?_
   repeat (first
    | refine uA ?_
    | refine uB ?_
    | refine kT ?_
    | (refine rG 0 ?_
       refine kA ?_
       refine AList.ptNeNil (ptr_under Try.underlying135) rfl rfl rfl ?_
       refine aB ?_)
    | (refine rG 1 ?_
       (iterate 2 refine kA ?_)
       refine AList.nilPt rfl rfl rfl rfl ?_
       refine kD ?_
       refine kI ?_
       refine AList.nilPt rfl rfl rfl rfl ?_
       refine kD ?_
       refine kI ?_
       refine aB ?_))
   refine ⟨mkL 10 1 [] [(1000, rsB (none))] [], [], _, [rsB (none)], [], ⟨rfl, rfl, rfl⟩, rfl, Wk.mkL [] rfl rfl rfl rfl rfl ?_ ⟨rs_heap rfl rfl, trivial⟩, rfl, rfl, GRets.no⟩
   exact allT
 | some s =>
   refine gm_at Try.func121 rfl rfl Try.ntmps121 rfl ?_
   repeat (first
    | refine uA ?_
    | refine uB ?_
    | refine kT ?_
    | (refine rG 0 ?_
       refine kA ?_
       refine AList.ptNeNil (ptr_under Try.underlying135) rfl rfl rfl ?_
       refine aB ?_)
    | (refine rG 1 ?_
       (iterate 2 refine kA ?_)
       refine AList.nilPt rfl rfl rfl rfl ?_
       refine kD ?_
       refine kI ?_
       refine AList.nilPt rfl rfl rfl rfl ?_
       refine kD ?_
       refine kI ?_
       refine aB ?_))
   refine ⟨mkL 10 1 [] [(1000, rsB (none))] [], [], _, [rsB (none)], [], ⟨rfl, rfl, rfl⟩, rfl, Wk.mkL [] rfl rfl rfl rfl rfl ?_ ⟨rs_heap rfl rfl, trivial⟩, rfl, rfl, GRets.no⟩
   exact allT
def RsOk (r : Rst) : Prop := ∀ s, r = some s → s.length ≤ 1000000000
set_option maxHeartbeats 1000000 in
set_option maxRecDepth 100000 in
theorem Int_M (r : Rst) (hr : RsOk r) : GMCalls Try.prog 71 [.c (.pt 1000 2 0 0)] [rsB r] [] (.c (iC (rI r).1)) [rsB (rI r).2] [] := by
 cases r with
 | none =>
   have hb := Bad_M none
   have hf := fail_M none
   rw [show rI none = (0, none) from rfl]
   refine gm_at Try.func71 rfl rfl Try.ntmps71 rfl ?_
   repeat (first
    | refine AWp.scopeJ 0 rfl (fun _ _ h => h) ?_
    | refine AWp.goto ?_
    | refine thenA_g ?_
    | refine gotoA_g ?_
    | refine uA ?_
    | refine uB ?_
    | refine uG ?_
    | refine AWp.ret ?_
    | refine kT ?_
    | (refine rG 0 ?_
       refine kC ?_
       refine aB ?_)
    | (refine rG 1 ?_
       (iterate 2 refine kC ?_)
       refine aB ?_)
    | (refine rG 2 ?_
       refine kA ?_
       refine AList.callM [1000] [] [] [rsB (none)] [] [rsB (none)] [] [rsB (none)] [] rfl rfl FnV.func rfl Try.func72 rfl (by kernel_rfl) (rs_lend rfl) (trivial) rfl (by exact ⟨sb_arg, trivial⟩) (.c (.imm _ rfl)) (rs_back) (trivial) (hb) ?_
       refine aB ?_)
    | (refine rG 7 ?_
       refine kA ?_
       refine AList.callM [1000] [] [] [rsB (none)] [] [rsB (none)] [] [rsB (none)] [] rfl rfl FnV.func rfl Try.func121 rfl (by kernel_rfl) (rs_lend rfl) (trivial) rfl (by exact ⟨sb_arg, trivial⟩) (.tu (l := []) (m := []) trivial) (rs_back) (trivial) (hf) ?_
       refine aB ?_)
    | (refine rG 8 ?_
       refine kC ?_
       refine aB ?_))
   refine ⟨mkL 29 1 [(2, .c (iC 0))] [(1000, rsB (none))] [], [], _, [rsB (none)], [], ⟨rfl, rfl, rfl⟩, rfl, Wk.mkL [] rfl rfl rfl rfl rfl ?_ ⟨rs_heap rfl rfl, trivial⟩, rfl, rfl, GRets.one (x := .c _) (GRes.tmp rfl)⟩
   exact allT
 | some s =>
   have hs := hr s rfl
   have hb := Bad_M (some s)
   have hf := fail_M (some s)
   have hd := decode_A s (by omega)
   by_cases h0 : (decV s).2 = 0
   ·rw [show rI (some s) = (0, none) from if_pos h0]
    rw [h0] at hd
    generalize (decV s).1 = n at hd
    refine gm_at Try.func71 rfl rfl Try.ntmps71 rfl ?_
    repeat (first
     | refine AWp.scopeJ 0 rfl (fun _ _ h => h) ?_
     | refine AWp.goto ?_
     | refine thenA_g ?_
     | refine gotoA_g ?_
     | refine uA ?_
     | refine uB ?_
     | refine uG ?_
     | refine AWp.ret ?_
     | refine kT ?_
     | refine kU ?_
     | (refine rG 0 ?_
        refine kC ?_
        refine aB ?_)
     | (refine rG 1 ?_
        (iterate 2 refine kC ?_)
        refine aB ?_)
     | (refine rG 2 ?_
        refine kA ?_
        refine AList.callM [1000] [] [] [rsB (some s)] [] [rsB (some s)] [] [rsB (some s)] [] rfl rfl FnV.func rfl Try.func72 rfl (by kernel_rfl) (rs_lend rfl) (trivial) rfl (by exact ⟨sb_arg, trivial⟩) (.c (.imm _ rfl)) (rs_back) (trivial) (hb) ?_
        refine aB ?_)
     | (refine rG 3 ?_
        refine kA ?_
        refine AList.nilPt rfl rfl rfl rfl ?_
        refine kD ?_
        refine kE ?_
        refine aH rfl rfl rfl rfl Try.func120 rfl (by kernel_rfl) (hd) ?_
        refine kA ?_
        (iterate 2 refine qr4 aN ?_)
        (iterate 2 refine kC ?_)
        refine aB ?_)
     | (refine rG 4 ?_
        refine kA ?_
        refine qr5t aK ?_
        refine aB ?_)
     | (refine rG 7 ?_
        refine kA ?_
        refine AList.callM [1000] [] [] [rsB (some s)] [] [rsB (none)] [] [rsB (none)] [] rfl rfl FnV.func rfl Try.func121 rfl (by kernel_rfl) (rs_lend rfl) (trivial) rfl (by exact ⟨sb_arg, trivial⟩) (.tu (l := []) (m := []) trivial) (rs_back) (trivial) (hf) ?_
        refine aB ?_)
     | (refine rG 8 ?_
        refine kC ?_
        refine aB ?_))
    refine ⟨mkL 29 1 [(2, .c (iC 0))] [(1000, rsB (none))] [], [], _, [rsB (none)], [], ⟨rfl, rfl, rfl⟩, rfl, Wk.mkL [] rfl rfl rfl rfl rfl ?_ ⟨rs_heap rfl rfl, trivial⟩, rfl, rfl, GRets.one (x := .c _) (GRes.tmp rfl)⟩
    exact allT
   ·obtain ⟨-, -, -, hle⟩ := decV_can (s := s) (n := (decV s).1) (u := (decV s).2) rfl (by omega)
    rw [show rI (some s) = ((decV s).1, some (s.drop (decV s).2)) from if_neg h0]
    generalize (decV s).1 = n at hd ⊢
    generalize (decV s).2 = u at hd h0 hle ⊢
    have h0' : ¬ (u : Int) = 0 := by omega
    have hsl : (s.take s.length).drop u = s.drop u := by rw [List.take_length]
    refine gm_at Try.func71 rfl rfl Try.ntmps71 rfl ?_
    repeat (first
     | refine AWp.scopeJ 0 rfl (fun _ _ h => h) ?_
     | refine gotoA_r ?_
     | refine uA ?_
     | refine uB ?_
     | refine uG ?_
     | refine AWp.ret ?_
     | refine thenA_r ?_
     | refine kU ?_
     | (refine rG 0 ?_
        refine kC ?_
        refine aB ?_)
     | (refine rG 1 ?_
        (iterate 2 refine kC ?_)
        refine aB ?_)
     | (refine rG 2 ?_
        refine kA ?_
        refine AList.callM [1000] [] [] [rsB (some s)] [] [rsB (some s)] [] [rsB (some s)] [] rfl rfl FnV.func rfl Try.func72 rfl (by kernel_rfl) (rs_lend rfl) (trivial) rfl (by exact ⟨sb_arg, trivial⟩) (.c (.imm _ rfl)) (rs_back) (trivial) (hb) ?_
        refine aB ?_)
     | (refine rG 3 ?_
        refine kA ?_
        refine AList.nilPt rfl rfl rfl rfl ?_
        refine kD ?_
        refine kE ?_
        refine aH rfl rfl rfl rfl Try.func120 rfl (by kernel_rfl) (hd) ?_
        refine kA ?_
        (iterate 2 refine qr4 aN ?_)
        (iterate 2 refine kC ?_)
        refine aB ?_)
     | (refine rG 4 ?_
        refine kA ?_
        refine qr5f aJ ?_
        refine aB ?_)
     | (refine rG 5 ?_
        (iterate 2 refine kA ?_)
        refine AList.nilPt rfl rfl rfl rfl ?_
        refine kD ?_
        refine kE ?_
        refine kA ?_
        refine AList.cutStr (l := u) (h := s.length) Try.underlying9 rfl rfl rfl ⟨_, _, rfl, by first | rfl | omega⟩ rfl (by omega) (by omega) ?_
        refine AList.nilPt rfl rfl rfl rfl ?_
        refine kD ?_
        refine kI ?_
        refine aB ?_)
     | (refine rG 6 ?_
        refine kA ?_
        refine kC ?_
        refine aB ?_))
    refine ⟨mkL 29 1 [(2, .c (iC n))] [(1000, rsB (some (s.drop u)))] [], [], _, [rsB (some (s.drop u))], [], ⟨rfl, rfl, rfl⟩, rfl, Wk.mkL [] rfl rfl rfl rfl rfl ?_ ⟨rs_heap rfl (by rw [← hsl]; rfl), trivial⟩, rfl, rfl, GRets.one (x := .c _) (GRes.tmp rfl)⟩
    exact allT
set_option maxRecDepth 100000 in
theorem Left_M (r : Rst) : GMCalls Try.prog 74 [.c (.pt 1000 2 0 0)] [rsB r] [] (.c (iC ((r.getD []).length : Nat))) [rsB r] [] := by
 cases r with
 | none =>
   have hb := Bad_M none
   refine gm_at Try.func74 rfl rfl Try.ntmps74 rfl ?_
   repeat (first
    | refine uA ?_
    | refine uB ?_
    | refine AWp.ret ?_
    | refine thenA_r ?_
    | refine kT ?_
    | (refine rG 0 ?_
       refine kC ?_
       refine aB ?_)
    | (refine rG 1 ?_
       refine kA ?_
       refine AList.callM [1000] [] [] [rsB (none)] [] [rsB (none)] [] [rsB (none)] [] rfl rfl FnV.func rfl Try.func72 rfl (by kernel_rfl) (rs_lend rfl) (trivial) rfl (by exact ⟨sb_arg, trivial⟩) (.c (.imm _ rfl)) (rs_back) (trivial) (hb) ?_
       refine aB ?_)
    | (refine rG 2 ?_
       refine kC ?_
       refine aB ?_))
   refine ⟨mkL 10 1 [(2, .c (iC 0))] [(1000, rsB (none))] [], [], _, [rsB (none)], [], ⟨rfl, rfl, rfl⟩, rfl, Wk.mkL [] rfl rfl rfl rfl rfl ?_ ⟨rs_heap rfl rfl, trivial⟩, rfl, rfl, GRets.one (x := .c _) (GRes.tmp rfl)⟩
   exact allT
 | some s =>
   have hb := Bad_M (some s)
   refine gm_at Try.func74 rfl rfl Try.ntmps74 rfl ?_
   repeat (first
    | refine uA ?_
    | refine uB ?_
    | refine uG ?_
    | refine AWp.ret ?_
    | refine kU ?_
    | (refine rG 0 ?_
       refine kC ?_
       refine aB ?_)
    | (refine rG 1 ?_
       refine kA ?_
       refine AList.callM [1000] [] [] [rsB (some s)] [] [rsB (some s)] [] [rsB (some s)] [] rfl rfl FnV.func rfl Try.func72 rfl (by kernel_rfl) (rs_lend rfl) (trivial) rfl (by exact ⟨sb_arg, trivial⟩) (.c (.imm _ rfl)) (rs_back) (trivial) (hb) ?_
       refine aB ?_)
    | (refine rG 3 ?_
       refine kA ?_
       refine AList.nilPt rfl rfl rfl rfl ?_
       refine kD ?_
       refine kE ?_
       refine AList.lenStr (s.length) (by first | rfl | assumption) Try.underlying9 rfl rfl rfl ?_
       refine kC ?_
       refine aB ?_))
   refine ⟨mkL 10 1 [(2, .c (iC (s.length : Nat)))] [(1000, rsB (some s))] [], [], _, [rsB (some s)], [], ⟨rfl, rfl, rfl⟩, rfl, Wk.mkL [] rfl rfl rfl rfl rfl ?_ ⟨rs_heap rfl rfl, trivial⟩, rfl, rfl, GRets.one (x := .c _) (GRes.tmp rfl)⟩
   exact allT
def rSz (r : Rst) : (Int × Bool) × Rst := match (rI r).2 with
 | none => ((0, false), none)
 | some s => if (rI r).1 < 0 ∨ (s.length : Int) < (rI r).1 then ((0, false), none) else (((rI r).1, true), some s)
theorem rI_ok {r : Rst} (h : RsOk r) : RsOk (rI r).2 := fun s hs => by
 cases r with
 | none => cases hs
 | some t =>
   have h1 := h t rfl
   have h' : (if (decV t).2 = 0 then ((0 : Int), (none : Rst)) else ((decV t).1, some (t.drop (decV t).2))).2 = some s := hs
   split at h'
   ·cases h'
   ·have := Option.some.inj h'
    rw [← this, List.length_drop]
    omega
set_option maxHeartbeats 1000000 in
set_option maxRecDepth 100000 in
theorem size_M (r : Rst) (hr : RsOk r) : GMCalls Try.prog 140 [.c (.pt 1000 2 0 0)] [rsB r] [] (.tu [.c (iC (rSz r).1.1), .c (bC (rSz r).1.2)]) [rsB (rSz r).2] [] := by
 have hi := Int_M r hr
 have hk := rI_ok hr
 unfold rSz
 generalize rI r = x at hi hk ⊢
 obtain ⟨n, r1⟩ := x
 dsimp only at hi hk ⊢
 cases r1 with
 | none =>
   have hb := Bad_M none
   have hf := fail_M none
   refine gm_at Try.func140 rfl rfl Try.ntmps140 rfl ?_
   repeat (first
    | refine uA ?_
    | refine uB ?_
    | refine AWp.ret ?_
    | refine thenA_r ?_
    | refine kT ?_
    | (refine rG 0 ?_
       (iterate 2 refine kC ?_)
       refine aB ?_)
    | (refine rG 1 ?_
       refine kA ?_
       refine AList.callM [1000] [] [] [rsB (r)] [] [rsB (none)] [] [rsB (none)] [] rfl rfl FnV.func rfl Try.func71 rfl (by kernel_rfl) (rs_lend rfl) (trivial) rfl (by exact ⟨sb_arg, trivial⟩) (.c (.imm _ rfl)) (rs_back) (trivial) (hi) ?_
       refine kC ?_
       refine aB ?_)
    | (refine rG 2 ?_
       refine kA ?_
       refine AList.callM [1000] [] [] [rsB (none)] [] [rsB (none)] [] [rsB (none)] [] rfl rfl FnV.func rfl Try.func72 rfl (by kernel_rfl) (rs_lend rfl) (trivial) rfl (by exact ⟨sb_arg, trivial⟩) (.c (.imm _ rfl)) (rs_back) (trivial) (hb) ?_
       refine kA ?_
       (iterate 2 refine qr2 aG ?_)
       refine qr4 aS ?_
       refine kA ?_
       (iterate 7 refine qr2 aG ?_)
       refine qr4 aS ?_
       refine aB ?_)
    | (refine rG 3 ?_
       refine kA ?_
       refine AList.callM [1000] [] [] [rsB (none)] [] [rsB (none)] [] [rsB (none)] [] rfl rfl FnV.func rfl Try.func121 rfl (by kernel_rfl) (rs_lend rfl) (trivial) rfl (by exact ⟨sb_arg, trivial⟩) (.tu (l := []) (m := []) trivial) (rs_back) (trivial) (hf) ?_
       refine aB ?_)
    | (refine rG 4 ?_
       (iterate 2 refine kC ?_)
       refine aB ?_))
   refine ⟨mkL 25 1 [(2, .c (iC 0)), (3, .c (bC false))] [(1000, rsB (none))] [], [], _, [rsB (none)], [], ⟨rfl, rfl, rfl⟩, rfl, Wk.mkL [] rfl rfl rfl rfl rfl ?_ ⟨rs_heap rfl rfl, trivial⟩, rfl, rfl, GRets.two (x := .c _) (y := .c _) (GRes.tmp rfl) (GRes.tmp rfl)⟩
   exact allT
 | some s =>
   have hs := hk s rfl
   have hb := Bad_M (some s)
   have hf := fail_M (some s)
   dsimp only
   by_cases h1 : n < 0
   ·rw [if_pos (.inl h1)]
    refine gm_at Try.func140 rfl rfl Try.ntmps140 rfl ?_
    repeat (first
     | refine uA ?_
     | refine uB ?_
     | refine AWp.ret ?_
     | refine thenA_r ?_
     | refine kT ?_
     | (refine rG 0 ?_
        (iterate 2 refine kC ?_)
        refine aB ?_)
     | (refine rG 1 ?_
        refine kA ?_
        refine AList.callM [1000] [] [] [rsB (r)] [] [rsB (some s)] [] [rsB (some s)] [] rfl rfl FnV.func rfl Try.func71 rfl (by kernel_rfl) (rs_lend rfl) (trivial) rfl (by exact ⟨sb_arg, trivial⟩) (.c (.imm _ rfl)) (rs_back) (trivial) (hi) ?_
        refine kC ?_
        refine aB ?_)
     | (refine rG 2 ?_
        refine kA ?_
        refine AList.callM [1000] [] [] [rsB (some s)] [] [rsB (some s)] [] [rsB (some s)] [] rfl rfl FnV.func rfl Try.func72 rfl (by kernel_rfl) (rs_lend rfl) (trivial) rfl (by exact ⟨sb_arg, trivial⟩) (.c (.imm _ rfl)) (rs_back) (trivial) (hb) ?_
        (iterate 2 refine kA ?_)
        refine qr5t aK ?_
        refine qr4 aR ?_
        refine kA ?_
        (iterate 7 refine qr2 aG ?_)
        refine qr4 aS ?_
        refine aB ?_)
     | (refine rG 3 ?_
        refine kA ?_
        refine AList.callM [1000] [] [] [rsB (some s)] [] [rsB (none)] [] [rsB (none)] [] rfl rfl FnV.func rfl Try.func121 rfl (by kernel_rfl) (rs_lend rfl) (trivial) rfl (by exact ⟨sb_arg, trivial⟩) (.tu (l := []) (m := []) trivial) (rs_back) (trivial) (hf) ?_
        refine aB ?_)
     | (refine rG 4 ?_
        (iterate 2 refine kC ?_)
        refine aB ?_))
    refine ⟨mkL 25 1 [(2, .c (iC 0)), (3, .c (bC false))] [(1000, rsB (none))] [], [], _, [rsB (none)], [], ⟨rfl, rfl, rfl⟩, rfl, Wk.mkL [] rfl rfl rfl rfl rfl ?_ ⟨rs_heap rfl rfl, trivial⟩, rfl, rfl, GRets.two (x := .c _) (y := .c _) (GRes.tmp rfl) (GRes.tmp rfl)⟩
    exact allT
   ·by_cases h2 : (s.length : Int) < n
    ·have h2' : n > (s.length : Int) := h2
     rw [if_pos (.inr h2)]
     refine gm_at Try.func140 rfl rfl Try.ntmps140 rfl ?_
     repeat (first
      | refine uA ?_
      | refine uB ?_
      | refine AWp.ret ?_
      | refine thenA_r ?_
      | refine kT ?_
      | (refine rG 0 ?_
         (iterate 2 refine kC ?_)
         refine aB ?_)
      | (refine rG 1 ?_
         refine kA ?_
         refine AList.callM [1000] [] [] [rsB (r)] [] [rsB (some s)] [] [rsB (some s)] [] rfl rfl FnV.func rfl Try.func71 rfl (by kernel_rfl) (rs_lend rfl) (trivial) rfl (by exact ⟨sb_arg, trivial⟩) (.c (.imm _ rfl)) (rs_back) (trivial) (hi) ?_
         refine kC ?_
         refine aB ?_)
      | (refine rG 2 ?_
         refine kA ?_
         refine AList.callM [1000] [] [] [rsB (some s)] [] [rsB (some s)] [] [rsB (some s)] [] rfl rfl FnV.func rfl Try.func72 rfl (by kernel_rfl) (rs_lend rfl) (trivial) rfl (by exact ⟨sb_arg, trivial⟩) (.c (.imm _ rfl)) (rs_back) (trivial) (hb) ?_
         (iterate 2 refine kA ?_)
         refine qr5f aJ ?_
         refine qr4 aR ?_
         (iterate 3 refine kA ?_)
         refine AList.nilPt rfl rfl rfl rfl ?_
         refine kD ?_
         refine kE ?_
         refine AList.lenStr (s.length) (by first | rfl | assumption) Try.underlying9 rfl rfl rfl ?_
         refine qr5t aK ?_
         refine qr4 aR ?_
         refine aB ?_)
      | (refine rG 3 ?_
         refine kA ?_
         refine AList.callM [1000] [] [] [rsB (some s)] [] [rsB (none)] [] [rsB (none)] [] rfl rfl FnV.func rfl Try.func121 rfl (by kernel_rfl) (rs_lend rfl) (trivial) rfl (by exact ⟨sb_arg, trivial⟩) (.tu (l := []) (m := []) trivial) (rs_back) (trivial) (hf) ?_
         refine aB ?_)
      | (refine rG 4 ?_
         (iterate 2 refine kC ?_)
         refine aB ?_))
     refine ⟨mkL 25 1 [(2, .c (iC 0)), (3, .c (bC false))] [(1000, rsB (none))] [], [], _, [rsB (none)], [], ⟨rfl, rfl, rfl⟩, rfl, Wk.mkL [] rfl rfl rfl rfl rfl ?_ ⟨rs_heap rfl rfl, trivial⟩, rfl, rfl, GRets.two (x := .c _) (y := .c _) (GRes.tmp rfl) (GRes.tmp rfl)⟩
     exact allT
    ·have h2' : ¬ n > (s.length : Int) := h2
     rw [if_neg (fun h => h.elim h1 h2)]
     refine gm_at Try.func140 rfl rfl Try.ntmps140 rfl ?_
     repeat (first
      | refine uA ?_
      | refine uB ?_
      | refine uG ?_
      | refine AWp.ret ?_
      | refine kU ?_
      | (refine rG 0 ?_
         (iterate 2 refine kC ?_)
         refine aB ?_)
      | (refine rG 1 ?_
         refine kA ?_
         refine AList.callM [1000] [] [] [rsB (r)] [] [rsB (some s)] [] [rsB (some s)] [] rfl rfl FnV.func rfl Try.func71 rfl (by kernel_rfl) (rs_lend rfl) (trivial) rfl (by exact ⟨sb_arg, trivial⟩) (.c (.imm _ rfl)) (rs_back) (trivial) (hi) ?_
         refine kC ?_
         refine aB ?_)
      | (refine rG 2 ?_
         refine kA ?_
         refine AList.callM [1000] [] [] [rsB (some s)] [] [rsB (some s)] [] [rsB (some s)] [] rfl rfl FnV.func rfl Try.func72 rfl (by kernel_rfl) (rs_lend rfl) (trivial) rfl (by exact ⟨sb_arg, trivial⟩) (.c (.imm _ rfl)) (rs_back) (trivial) (hb) ?_
         (iterate 2 refine kA ?_)
         refine qr5f aJ ?_
         refine qr4 aR ?_
         (iterate 3 refine kA ?_)
         refine AList.nilPt rfl rfl rfl rfl ?_
         refine kD ?_
         refine kE ?_
         refine AList.lenStr (s.length) (by first | rfl | assumption) Try.underlying9 rfl rfl rfl ?_
         refine qr5f aJ ?_
         refine qr4 aR ?_
         refine aB ?_)
      | (refine rG 5 ?_
         refine kA ?_
         (iterate 2 refine kC ?_)
         refine aB ?_))
     refine ⟨mkL 25 1 [(2, .c (iC n)), (3, .c (bC true))] [(1000, rsB (some s))] [], [], _, [rsB (some s)], [], ⟨rfl, rfl, rfl⟩, rfl, Wk.mkL [] rfl rfl rfl rfl rfl ?_ ⟨rs_heap rfl rfl, trivial⟩, rfl, rfl, GRets.two (x := .c _) (y := .c _) (GRes.tmp rfl) (GRes.tmp rfl)⟩
     exact allT
theorem rN_snoc : ∀ (k : Nat) (r : Rst), rN (k + 1) r = ((rN k r).1 ++ [(rI (rN k r).2).1], (rI (rN k r).2).2)
 | 0, _ => rfl
 | k + 1, r => by
   show ((rI r).1 :: (rN (k + 1) (rI r).2).1, (rN (k + 1) (rI r).2).2) = ((rI r).1 :: ((rN k (rI r).2).1 ++ [_]), _)
   rw [rN_snoc k (rI r).2]
   rfl
theorem rN_ok {r : Rst} (h : RsOk r) : ∀ k, RsOk (rN k r).2
 | 0 => h
 | k + 1 => by rw [rN_snoc]; exact rI_ok (rN_ok h k)
theorem rL_by (r : Rst) (hr : RsOk r) : (rSz r = ((0, false), none) ∧ rL r = ([], none)) ∨ ∃ (N : Nat) (s : List UInt8), rSz r = (((N : Int), true), some s) ∧ rL r = rE (rN N (some s)) ∧ N ≤ s.length ∧ RsOk (some s) := by
 have hk := rI_ok hr
 unfold rSz rL
 generalize rI r = x at hk ⊢
 obtain ⟨n, r1⟩ := x
 cases r1 with
 | none => exact .inl ⟨rfl, rfl⟩
 | some s =>
   dsimp only
   by_cases h : n < 0 ∨ (s.length : Int) < n
   ·exact .inl ⟨if_pos h, if_pos h⟩
   ·obtain ⟨N, rfl⟩ := Int.eq_ofNat_of_zero_le (show 0 ≤ n by omega)
    exact .inr ⟨N, s, if_neg h, if_neg h, by omega, hk⟩
set_option maxHeartbeats 2000000 in
set_option maxRecDepth 100000 in
theorem elements_M (r : Rst) (hr : RsOk r) (u : Value) : GMP Try.prog 122 (fun fx => fx 1000 = some u) [.c (.pt 1000 2 0 0), .c (.p (bndV 71 u))] [rsB r] [] (GEq (.c (.ow 900)) [rsB (rL r).2] [rwI (rL r).1]) := by
 have hz := size_M r hr
 rcases rL_by r hr with ⟨e1, e2⟩ | ⟨N, s, e1, e2, hN, hs⟩
 ·rw [e1] at hz
  rw [e2]
  dsimp only at hz ⊢
  refine gmp_at (pre := fun fx => fx 1000 = some u) Try.func122 rfl rfl Try.ntmps122 rfl ?_
  repeat (first
   | refine uA ?_
   | refine uB ?_
   | refine AWp.ret ?_
   | refine thenA_r ?_
   | refine kT ?_
   | (refine rG 0 ?_
      refine kC ?_
      refine aB ?_)
   | (refine rG 1 ?_
      refine kA ?_
      refine AList.callM [1000] [] [] [rsB (r)] [] [rsB (none)] [] [rsB (none)] [] rfl rfl FnV.func rfl Try.func140 rfl (by kernel_rfl) (rs_lend rfl) (trivial) rfl (by exact ⟨sb_arg, trivial⟩) (tu2_back) (rs_back) (trivial) (hz) ?_
      refine kA ?_
      (iterate 2 refine qr4 aN ?_)
      (iterate 2 refine kC ?_)
      refine aB ?_)
   | (refine rG 2 ?_
      refine kA ?_
      refine qr3 AList.notB ?_
      refine aB ?_)
   | (refine rG 3 ?_
      refine kC ?_
      refine aB ?_))
  refine ⟨mkL 27 1 [(4, .c (.ow 900))] [(900, rwI []), (1000, rsB none)] [900], [], _, [rsB none], [rwI []], ⟨rfl, rfl, rfl⟩, rfl, Wk.mkL [(900, none)] rfl rfl rfl rfl rfl ?_ ⟨HeapOk.nil rfl rfl, rs_heap rfl rfl, trivial⟩ rfl rfl (fun _ h => h.1), rfl, rfl, GRets.one (x := .c _) (GRes.tmp rfl)⟩
  exact allT
 rw [e1] at hz
 rw [e2]
 dsimp only at hz ⊢
 have hsl := hs s rfl
 have hno := rN_ok hs
 have hln := fun k => rN_len k (some s)
 have hsn := fun k => rN_snoc k (some s)
 refine gmp_at (pre := fun fx => fx 1000 = some u) Try.func122 rfl rfl Try.ntmps122 rfl ?_
 repeat (first
  | refine uA ?_
  | refine uB ?_
  | refine uC ?_
  | refine uG ?_
  | refine kU ?_
  | (refine rG 0 ?_
     refine kC ?_
     refine aB ?_)
  | (refine rG 1 ?_
     refine kA ?_
     refine AList.callM [1000] [] [] [rsB (r)] [] [rsB (some s)] [] [rsB (some s)] [] rfl rfl FnV.func rfl Try.func140 rfl (by kernel_rfl) (rs_lend rfl) (trivial) rfl (by exact ⟨sb_arg, trivial⟩) (tu2_back) (rs_back) (trivial) (hz) ?_
     refine kA ?_
     (iterate 2 refine qr4 aN ?_)
     (iterate 2 refine kC ?_)
     refine aB ?_)
  | (refine rG 2 ?_
     refine kA ?_
     refine qr3 AList.notB ?_
     refine aB ?_)
  | (refine rG 4 ?_
     refine kC ?_
     refine aB ?_)
  | (refine rG 5 ?_
     (iterate 2 refine kA ?_)
     refine aB ?_))
 refine AWp.round (fun k : Nat =>
  mkG (preG fun fx => fx 1000 = some u) 0 false 27 1 [(0, .c (.pt 1000 2 0 0)), (1, .c (.p (bndV 71 u))), (7, .c (.ow 30)), (15, .c (iC N)), (16, .c (iC (k : Nat)))] [(1000, rsB (rN ((k : Nat)) (some s)).2), (30, rwI (rN ((k : Nat)) (some s)).1)] [30]
  ) (fun k => k ≤ N) (fun k => N - k) 0 (Nat.zero_le _) ?_ (fun k hk => ?_)
 ·refine Wk.mkG [(30, none)] rfl rfl rfl rfl rfl ?_ ⟨rs_heap rfl rfl, HeapOk.nil rfl rfl, trivial⟩ rfl rfl (fun _ h => h)
  repeat (first | exact trivial | refine ⟨⟨_, rfl, by first | exact LeA.c (LeC.ptB _ _ _ _ rfl) | exact leT⟩, ?_⟩)
 by_cases hkl : k < N
 ·have hkl' : (k : Int) < N := by omega
  have hct := Int_M (rN k (some s)).2 (hno k)
  have hl := hln k
  have e := hsn k
  generalize rN k (some s) = x at hct hl e ⊢
  obtain ⟨l, q⟩ := x
  dsimp only at hct hl e ⊢
  generalize rI q = y at hct e ⊢
  obtain ⟨n, q1⟩ := y
  dsimp only at hct e ⊢
  repeat (first
   | refine uA ?_
   | refine uB ?_
   | refine uC ?_
   | refine uG ?_
   | refine uD ?_
   | refine kT ?_
   | (refine rG 6 ?_
      refine qr5t aK ?_
      refine aB ?_)
   | (refine rG 7 ?_
      (iterate 2 refine kA ?_)
      refine AList.callB [1000] [] [rsB q] [rsB q1] [] [rsB q1] [] rfl rfl rfl (fun _ h => h.2) rfl rfl rfl Try.func71 rfl (by kernel_rfl) (rs_lend rfl) rfl (by exact ⟨sb_arg, trivial⟩) (.c (.imm _ rfl)) (rs_back) trivial (hct) ?_
      refine qr11 (AList.litSl tyOk) ?_
      refine AList.appL tyOk rfl rfl rfl rfl rfl rfl rfl rfl rfl rfl oM oM ?_
      refine kC ?_
      refine aB ?_)
   | (refine rG 8 ?_
      refine qr4w2 aL ?_
      refine kA ?_
      refine aB ?_))
  refine ⟨k + 1, hkl, Wk.mkG [(30, some 22)] rfl rfl rfl rfl rfl ?_ ⟨by rw [e]; exact rs_heap rfl (by cases q1 <;> rfl), ?_, trivial⟩ rfl rfl (fun _ h => h), by omega⟩
  ·repeat (first | exact trivial | refine ⟨⟨_, rfl, by first | exact LeA.c (LeC.ptB _ _ _ _ rfl) | exact leT⟩, ?_⟩)
  ·rw [e]
   exact HeapOk.row rfl rfl (by rw [List.length_append]; rfl) (rwI_snoc _ _)
 have hkl' : ¬ (k : Int) < N := by omega
 obtain rfl : k = N := by omega
 clear hsn
 generalize rN k (some s) = x
 obtain ⟨l, q⟩ := x
 cases q with
 | none =>
   have hb := Bad_M none
   rw [show rE (l, none) = ([], none) from rfl]
   repeat (first
    | refine uA ?_
    | refine uB ?_
    | refine uH ?_
    | refine AWp.ret ?_
    | refine thenA_r ?_
    | refine kT ?_
    | refine kU ?_
    | (refine rG 6 ?_
       refine qr5f aJ ?_
       refine aB ?_)
    | (refine rG 9 ?_
       refine kA ?_
       refine AList.callM [1000] [] [] [rsB (none)] [] [rsB (none)] [] [rsB (none)] [] rfl rfl FnV.func rfl Try.func72 rfl (by kernel_rfl) (rs_lend rfl) (trivial) rfl (by exact ⟨sb_arg, trivial⟩) (.c (.imm _ rfl)) (rs_back) (trivial) (hb) ?_
       refine aB ?_)
    | (refine rG 10 ?_
       refine kC ?_
       refine aB ?_))
   refine ⟨mkL 27 1 [(4, .c (.ow 900))] [(900, rwI []), (1000, rsB none)] [900], [], _, [rsB none], [rwI []], ⟨rfl, rfl, rfl⟩, rfl, Wk.mkL [(900, none)] rfl rfl rfl rfl rfl ?_ ⟨HeapOk.nil rfl rfl, rs_heap rfl rfl, trivial⟩ rfl rfl (fun _ h => h.1), rfl, rfl, GRets.one (x := .c _) (GRes.tmp rfl)⟩
   exact allT
 | some t =>
   have hb := Bad_M (some t)
   rw [show rE (l, some t) = (l, some t) from rfl]
   repeat (first
    | refine uA ?_
    | refine uB ?_
    | refine uG ?_
    | refine uH ?_
    | refine AWp.ret ?_
    | refine kU ?_
    | (refine rG 6 ?_
       refine qr5f aJ ?_
       refine aB ?_)
    | (refine rG 9 ?_
       refine kA ?_
       refine AList.callM [1000] [] [] [rsB (some t)] [] [rsB (some t)] [] [rsB (some t)] [] rfl rfl FnV.func rfl Try.func72 rfl (by kernel_rfl) (rs_lend rfl) (trivial) rfl (by exact ⟨sb_arg, trivial⟩) (.c (.imm _ rfl)) (rs_back) (trivial) (hb) ?_
       refine aB ?_)
    | (refine rG 11 ?_
       refine kA ?_
       refine kC ?_
       refine aB ?_))
   refine ⟨mkL 27 1 [(4, .c (.ow 900))] [(900, rwI l), (1000, rsB (some t))] [900], [], _, [rsB (some t)], [rwI l], ⟨rfl, rfl, rfl⟩, rfl, Wk.mkL [(900, some 30)] rfl rfl rfl rfl rfl ?_ ⟨HeapOk.row rfl rfl rfl (fun _ _ _ _ => ⟨rfl, rfl⟩), rs_heap rfl rfl, trivial⟩ rfl rfl (fun _ h => h.1), rfl, rfl, GRets.one (x := .c _) (GRes.tmp rfl)⟩
   exact allT
theorem rwI_new {ids ni : List Nat} {l : List Int} : BackB ids ni [rwI l] [rwI l] := ⟨⟨_, rfl, fun _ _ _ _ => .imm _ rfl⟩, trivial⟩
set_option maxHeartbeats 2000000 in
set_option maxRecDepth 100000 in
theorem Ints_M (r : Rst) (hr : RsOk r) : GMCalls Try.prog 73 [.c (.pt 1000 2 0 0)] [rsB r] [] (.c (.ow 900)) [rsB (rL r).2] [rwI (rL r).1] := by
 have hc := elements_M r hr
 generalize rL r = x at hc ⊢
 obtain ⟨l, q⟩ := x
 dsimp only at hc ⊢
 refine gm_at Try.func73 rfl rfl Try.ntmps73 rfl ?_
 repeat (first
  | refine uA ?_
  | (refine rG 0 ?_
     refine kC ?_
     refine aB ?_))
 refine AWp.text ?_
 refine AText.split 2 ?_
 (iterate 2 refine kA ?_)
 refine aB ?_
 refine AText.mkCallM [1000] [30] [rsB r] [rsB q] [rwI l] [rsB q] [rwI l] rfl rfl rfl rfl rfl rfl rfl (fun _ => rfl) Try.func122 rfl (by kernel_rfl) (rs_lend rfl) rfl (by exact fun _ => ⟨sb_arg, p_arg, trivial⟩) (.c (.owN 0 30 rfl)) (rs_back) (rwI_new) (hc) ?_
 refine AText.all ?_
 refine kC ?_
 refine aB ?_
 repeat (first
  | refine uB ?_
  | refine AWp.ret ?_)
 refine ⟨mkL 7 1 [(2, .c (.ow 900))] [(900, rwI l), (1000, rsB q)] [900], [], _, [rsB q], [rwI l], ⟨rfl, rfl, rfl⟩, rfl, Wk.mkL [(900, some 30)] rfl rfl rfl rfl rfl ?_ ⟨HeapOk.row rfl rfl rfl (fun _ _ _ _ => ⟨rfl, rfl⟩), rs_heap rfl (by cases q <;> rfl), trivial⟩, rfl, rfl, GRets.one (x := .c _) (GRes.tmp rfl)⟩
 exact allT
theorem rE_ok {x : List Int × Rst} (h : RsOk x.2) : RsOk (rE x).2 := by
 obtain ⟨l, q⟩ := x
 cases q with
 | none => exact h
 | some s => exact h
theorem rL_ok {r : Rst} (hr : RsOk r) : RsOk (rL r).2 := by
 rcases rL_by r hr with ⟨-, e⟩ | ⟨N, s, -, e, -, hs⟩
 ·rw [e]
  exact fun s h => by cases h
 ·rw [e]
  exact rE_ok (rN_ok hs N)
def PaI (N B : Nat) (r0 : Rst) (x : List Wt × Rst) : Prop :=
 x.1.length ≤ N ∧ rWs N r0 = (x.1 ++ (rWs (N - x.1.length) x.2).1, (rWs (N - x.1.length) x.2).2) ∧ x.1.length ≤ B + 1 ∧ ∀ t, x.2 = some t → x.1.length + t.length ≤ B
theorem PaI.start {N B : Nat} {r0 : Rst} (h : ∀ t, r0 = some t → t.length ≤ B) : PaI N B r0 ([], r0) :=
 ⟨Nat.zero_le _, rfl, Nat.zero_le _, fun t ht => by have := h t ht; show 0 + t.length ≤ B; omega⟩
theorem rL_less {s t : List UInt8} {l : List Int} (h : rL (some s) = (l, some t)) : t.length + 1 ≤ s.length := by
 have h1 := (rL_can h).1
 have h2 : 1 ≤ (insB l).length := by
  have := inB_pos (l.length : Int)
  unfold insB
  rw [List.length_append]
  omega
 rw [h1, List.length_append]
 omega
theorem PaI.step {N B : Nat} {r0 : Rst} {p : List Wt} {s : List UInt8} (h : PaI N B r0 (p, some s)) (hN : p.length < N) : PaI N B r0 (p ++ [((rL (some s)).1, (rL (rL (some s)).2).1)], (rL (rL (some s)).2).2) := by
 obtain ⟨h1, h2, h3, h4⟩ := h
 have h5 := h4 s rfl
 dsimp only at h1 h2 h3 h5
 have hl : (p ++ [((rL (some s)).1, (rL (rL (some s)).2).1)]).length = p.length + 1 := by rw [List.length_append]; rfl
 obtain ⟨m, hm⟩ : ∃ m, N - p.length = m + 1 := ⟨N - p.length - 1, by omega⟩
 refine ⟨by show (_ : List Wt).length ≤ _; rw [hl]; omega, ?_, by show (_ : List Wt).length ≤ _; rw [hl]; omega, fun t ht => ?_⟩
 ·show rWs N r0 = ((p ++ [_]) ++ (rWs (N - (p ++ [_]).length) _).1, (rWs (N - (p ++ [_]).length) _).2)
  rw [hl, show N - (p.length + 1) = m by omega, h2, hm, List.append_assoc]
  rfl
 ·show (_ : List Wt).length + _ ≤ _
  rw [hl]
  have ht' : (rL (rL (some s)).2).2 = some t := ht
  cases hq : rL (some s) with
  | mk l q =>
    rw [hq] at ht'
    cases q with
    | none => cases ht'
    | some s1 =>
      have g1 := rL_less hq
      cases hq2 : rL (some s1) with
      | mk l2 q2 =>
        have ht2 : (rL (some s1)).2 = some t := ht'
        rw [hq2] at ht2
        have g2 := rL_less (hq2.trans (by rw [show q2 = some t from ht2]))
        omega
theorem par_bad {s : List UInt8} {n : Int} {r0 : Rst} {B : Nat} {p : List Wt} (h0 : rI (some s) = (n, r0)) (h : PaI n.toNat B r0 (p, none)) : parV s = ([], false) := by
 unfold parV
 rw [h0]
 dsimp only
 rw [h.2.1]
 dsimp only
 rw [rWs_none]
theorem par_neg {s : List UInt8} {n : Int} {r0 : Rst} (h0 : rI (some s) = (n, r0)) (h : n < 0) : parV s = ([], false) := by
 unfold parV
 rw [h0]
 dsimp only
 rw [show n.toNat = 0 by omega]
 cases r0 with
 | none => rfl
 | some t =>
   cases t with
   | nil => exact if_pos h
   | cons a l => rfl
theorem par_end {s t : List UInt8} {n : Int} {r0 : Rst} {B : Nat} {p : List Wt} (h0 : rI (some s) = (n, r0)) (hn : ¬ n < 0) (h : PaI n.toNat B r0 (p, some t)) (hp : ¬ (p.length : Int) < n) : parV s = if t = [] then (p, true) else ([], false) := by
 obtain ⟨h1, h2, -, -⟩ := h
 dsimp only at h1 h2
 rw [show n.toNat - p.length = 0 by omega, show rWs 0 (some t) = ([], some t) from rfl, List.append_nil] at h2
 unfold parV
 rw [h0]
 dsimp only
 rw [h2]
 cases t with
 | nil => rw [if_pos (rfl : ([] : List UInt8) = [])]; exact if_neg hn
 | cons a l => exact (if_neg (show ¬ (a :: l) = [] by simp)).symm
theorem wrow_old {p : List Wt} {w : Wt} {k j : Nat} (h : k < p.length) : rowF wtC wtZ (p ++ [w]) k j = rowF wtC wtZ p k j := by
 simp only [rowF, getD_app, if_pos h]
theorem wrow_last {p : List Wt} {w : Wt} {j : Nat} : rowF wtC wtZ (p ++ [w]) p.length j = (wtC w).getD j .any := by
 simp only [rowF, getD_app, if_neg (Nat.lt_irrefl _), Nat.sub_self]
 rfl
set_option maxHeartbeats 2000000 in
set_option maxRecDepth 100000 in
theorem pParse_A (s : List UInt8) (hs : s.length ≤ 900000000) : ACalls Try.prog 28 [.c (byV s)] (.tu [.c (wpL (parV s).1), .c (bC (parV s).2)]) := by
 have hnw := New_M s
 have hr0 : RsOk (some s) := fun t ht => by cases ht; omega
 have hi := Int_M (some s) hr0
 have hle : ∀ t, (rI (some s)).2 = some t → t.length ≤ s.length := fun t ht => by
  have h' : (if (decV s).2 = 0 then ((0 : Int), (none : Rst)) else ((decV s).1, some (s.drop (decV s).2))).2 = some t := ht
  split at h'
  ·cases h'
  ·rw [← Option.some.inj h', List.length_drop]
   omega
 obtain ⟨x0, hx0⟩ : ∃ x, rI (some s) = x := ⟨_, rfl⟩
 obtain ⟨n, r0⟩ := x0
 rw [hx0] at hi hle
 dsimp only at hi hle
 refine acalls_at Try.func28 rfl rfl Try.ntmps28 rfl ?_
 repeat (first
  | refine uA ?_
  | refine uC ?_
  | (refine rG 0 ?_
     (iterate 2 refine kC ?_)
     refine aB ?_)
  | (refine rG 1 ?_
     refine kA ?_
     refine AList.callM [] [] [50] [] [] [] [rsB (some s)] [] [rsB (some s)] rfl rfl FnV.func rfl Try.func70 rfl (by kernel_rfl) (trivial) (trivial) rfl (by exact ⟨p_arg, trivial⟩) (.c (.ptN 0 50 2 0 0 rfl)) (trivial) (rs_new) (hnw) ?_
     refine kC ?_
     refine aB ?_)
  | (refine rG 2 ?_
     refine kA ?_
     refine AList.callM [50] [] [] [rsB (some s)] [] [rsB (r0)] [] [rsB (r0)] [] rfl rfl FnV.func rfl Try.func71 rfl (by kernel_rfl) (rs_lend rfl) (trivial) rfl (by exact ⟨sb_arg, trivial⟩) (.c (.imm _ rfl)) (rs_back) (trivial) (hi) ?_
     refine kC ?_
     refine aB ?_)
  | (refine rG 3 ?_
     refine kC ?_
     refine aB ?_))
 refine AWp.round (fun x : List Wt × Rst =>
  mkSt 40 [(4, .c (.pt 50 2 0 0)), (5, .c (iC n)), (6, .c (.ow 301))] [(50, rsB (x).2), (301, wpB (x).1)] [50, 301]
  ) (PaI n.toNat s.length r0) (fun x => n.toNat - x.1.length) ([], r0) (PaI.start hle) ?_ (fun x hx => ?_)
 ·refine Wk.mk [(50, some 50), (301, none)] rfl rfl rfl ?_ ?_
  ·exact allT
  ·exact ⟨by cases r0 <;> exact hSm, HeapOk.nil rfl rfl, trivial⟩
 obtain ⟨p, q⟩ := x
 have hp3 := hx.2.2.1
 dsimp only at hp3
 cases q with
 | none =>
   rw [par_bad hx0 hx]
   have hb := Bad_M none
   have hl := Left_M none
   by_cases hlt : (p.length : Int) < n
   ·by_cases hn : n < 0
    ·omega
    repeat (first
     | refine uA ?_
     | refine uB ?_
     | refine uH ?_
     | refine AWp.ret ?_
     | refine thenA_r ?_
     | refine kT ?_
     | refine kU ?_
     | (refine rG 4 ?_
        refine kA ?_
        refine qr7 (AList.lenOw tyOk) ?_
        refine kA ?_
        refine qr5t aK ?_
        (iterate 2 refine kA ?_)
        refine AList.callM [50] [] [] [rsB (none)] [] [rsB (none)] [] [rsB (none)] [] rfl rfl FnV.func rfl Try.func72 rfl (by kernel_rfl) (rs_lend rfl) (trivial) rfl (by exact ⟨sb_arg, trivial⟩) (.c (.imm _ rfl)) (rs_back) (trivial) (hb) ?_
        refine qr3 AList.notB ?_
        refine qr4 aS ?_
        refine aB ?_)
     | (refine rG 6 ?_
        refine kA ?_
        refine qr5f aJ ?_
        (iterate 2 refine kA ?_)
        refine AList.callM [50] [] [] [rsB (none)] [] [rsB (none)] [] [rsB (none)] [] rfl rfl FnV.func rfl Try.func72 rfl (by kernel_rfl) (rs_lend rfl) (trivial) rfl (by exact ⟨sb_arg, trivial⟩) (.c (.imm _ rfl)) (rs_back) (trivial) (hb) ?_
        refine qr4 aR ?_
        refine kA ?_
        (iterate 3 refine qr2 aG ?_)
        refine qr4 aS ?_
        refine aB ?_)
     | (refine rG 7 ?_
        (iterate 2 refine kC ?_)
        refine aB ?_))
    exact ⟨mkSt 40 [(2, .c (wpL [])), (3, .c (bC false))] [] [], [], Wk.mk [] rfl rfl rfl ⟨⟨_, rfl, .c (LeC.nils _ _)⟩, ⟨_, rfl, .c (LeC.refl _ rfl)⟩, trivial⟩ trivial, rfl, rfl, ARets.two (x := .c _) (y := .c _) (ARes.tmp rfl rfl) (ARes.tmp rfl rfl)⟩
   ·by_cases hn : n < 0
    ·repeat (first
      | refine uA ?_
      | refine uB ?_
      | refine uH ?_
      | refine AWp.ret ?_
      | refine thenA_r ?_
      | refine kT ?_
      | refine kU ?_
      | (refine rG 4 ?_
         refine kA ?_
         refine qr7 (AList.lenOw tyOk) ?_
         refine kA ?_
         refine qr5f aJ ?_
         refine kA ?_
         (iterate 3 refine qr2 aG ?_)
         refine qr4 aR ?_
         refine aB ?_)
      | (refine rG 6 ?_
         refine kA ?_
         refine qr5t aK ?_
         refine kA ?_
         (iterate 2 refine qr2 aG ?_)
         refine qr4 aS ?_
         refine kA ?_
         (iterate 3 refine qr2 aG ?_)
         refine qr4 aS ?_
         refine aB ?_)
      | (refine rG 7 ?_
         (iterate 2 refine kC ?_)
         refine aB ?_))
     exact ⟨mkSt 40 [(2, .c (wpL [])), (3, .c (bC false))] [] [], [], Wk.mk [] rfl rfl rfl ⟨⟨_, rfl, .c (LeC.nils _ _)⟩, ⟨_, rfl, .c (LeC.refl _ rfl)⟩, trivial⟩ trivial, rfl, rfl, ARets.two (x := .c _) (y := .c _) (ARes.tmp rfl rfl) (ARes.tmp rfl rfl)⟩
    ·repeat (first
      | refine uA ?_
      | refine uB ?_
      | refine uH ?_
      | refine AWp.ret ?_
      | refine thenA_r ?_
      | refine kT ?_
      | refine kU ?_
      | (refine rG 4 ?_
         refine kA ?_
         refine qr7 (AList.lenOw tyOk) ?_
         refine kA ?_
         refine qr5f aJ ?_
         refine kA ?_
         (iterate 3 refine qr2 aG ?_)
         refine qr4 aR ?_
         refine aB ?_)
      | (refine rG 6 ?_
         refine kA ?_
         refine qr5f aJ ?_
         (iterate 2 refine kA ?_)
         refine AList.callM [50] [] [] [rsB (none)] [] [rsB (none)] [] [rsB (none)] [] rfl rfl FnV.func rfl Try.func72 rfl (by kernel_rfl) (rs_lend rfl) (trivial) rfl (by exact ⟨sb_arg, trivial⟩) (.c (.imm _ rfl)) (rs_back) (trivial) (hb) ?_
         refine qr4 aR ?_
         refine kA ?_
         (iterate 3 refine qr2 aG ?_)
         refine qr4 aS ?_
         refine aB ?_)
      | (refine rG 7 ?_
         (iterate 2 refine kC ?_)
         refine aB ?_))
     exact ⟨mkSt 40 [(2, .c (wpL [])), (3, .c (bC false))] [] [], [], Wk.mk [] rfl rfl rfl ⟨⟨_, rfl, .c (LeC.nils _ _)⟩, ⟨_, rfl, .c (LeC.refl _ rfl)⟩, trivial⟩ trivial, rfl, rfl, ARets.two (x := .c _) (y := .c _) (ARes.tmp rfl rfl) (ARes.tmp rfl rfl)⟩
 | some t =>
   have hb := Bad_M (some t)
   have hl := Left_M (some t)
   simp only [Option.getD_some] at hl
   have hp4 := hx.2.2.2 t rfl
   dsimp only at hp4
   by_cases hlt : (p.length : Int) < n
   ·have st := PaI.step hx (by omega)
    have hr1 : RsOk (some t) := fun v hv => by cases hv; omega
    have c1 := Ints_M (some t) hr1
    have hr2 := rL_ok hr1
    generalize rL (some t) = y at c1 hr2 st
    obtain ⟨l1, q1⟩ := y
    dsimp only at c1 hr2 st
    have c2 := Ints_M q1 hr2
    generalize rL q1 = y at c2 st
    obtain ⟨l2, q2⟩ := y
    dsimp only at c2 st
    repeat (first
     | refine uA ?_
     | refine uB ?_
     | refine uC ?_
     | refine uG ?_
     | refine kT ?_
     | (refine rG 4 ?_
        refine kA ?_
        refine qr7 (AList.lenOw tyOk) ?_
        refine kA ?_
        refine qr5t aK ?_
        (iterate 2 refine kA ?_)
        refine AList.callM [50] [] [] [rsB (some t)] [] [rsB (some t)] [] [rsB (some t)] [] rfl rfl FnV.func rfl Try.func72 rfl (by kernel_rfl) (rs_lend rfl) (trivial) rfl (by exact ⟨sb_arg, trivial⟩) (.c (.imm _ rfl)) (rs_back) (trivial) (hb) ?_
        refine qr3 AList.notB ?_
        refine qr4 aS ?_
        refine aB ?_))
    refine aY ?_
    (iterate 2 refine kA ?_)
    refine AList.callM [50] [] [51] [rsB (some t)] [] [rsB q1] [rwI l1] [rsB q1] [rwI l1] rfl rfl FnV.func rfl Try.func73 rfl (by kernel_rfl) (rs_lend rfl) (trivial) rfl (by exact ⟨sb_arg, trivial⟩) (.c (.owN 0 51 rfl)) (rs_back) (rwI_new) (c1) ?_
    refine kA ?_
    refine AList.callM [50] [] [52] [rsB q1] [] [rsB q2] [rwI l2] [rsB q2] [rwI l2] rfl rfl FnV.func rfl Try.func73 rfl (by kernel_rfl) (rs_lend rfl) (trivial) rfl (by exact ⟨sb_arg, trivial⟩) (.c (.owN 0 52 rfl)) (rs_back) (rwI_new) (c2) ?_
    refine qr8 (aX tyOk) ?_
    refine qr11 (AList.litOw tyOk) ?_
    refine AList.appO tyOk rfl rfl rfl rfl rfl rfl rfl rfl rfl rfl rfl oM oM ?_
    refine kC ?_
    refine aB ?_
    refine ⟨(p ++ [(l1, l2)], q2), st, Wk.mk [(50, some 50), (301, some 27)] rfl rfl rfl ?_ ?_, ?_⟩
    ·exact allT
    ·refine ⟨by cases q2 <;> exact hSm, .inr ⟨27, p.length + 1, _, .inl rfl, (by show (p ++ [(l1, l2)]).length = _; rw [List.length_append]; rfl), rfl, fun k hk j hj => ?_⟩, trivial⟩
     show LeC _ _ (appF (rowF wtC wtZ p) p.length (sF [.ow 51, .ow 52] 2) k j) (rowF wtC wtZ (p ++ [(l1, l2)]) k j)
     by_cases hki : k < p.length
     ·rw [show appF (rowF wtC wtZ p) p.length (sF [.ow 51, .ow 52] 2) k j = rowF wtC wtZ p k j by unfold appF; rw [Nat.blt_eq.mpr hki]; rfl, wrow_old hki]
      exact LeC.refl _ (rowF_imm wtC_imm _ k j)
     ·obtain rfl : k = p.length := by omega
      rw [show appF (rowF wtC wtZ p) p.length (sF [.ow 51, .ow 52] 2) p.length j = sF [.ow 51, .ow 52] 2 0 j by unfold appF; rw [show Nat.blt p.length p.length = false from Bool.eq_false_iff.2 fun e => Nat.lt_irrefl _ (Nat.blt_eq.mp e), Nat.sub_self]; rfl, wrow_last]
      match j, hj with
      | 0, _ => exact LeC.fz rfl rfl rfl (fun _ _ _ _ => ⟨rfl, rfl⟩)
      | 1, _ => exact LeC.fz rfl rfl rfl (fun _ _ _ _ => ⟨rfl, rfl⟩)
    ·show n.toNat - (p ++ [(l1, l2)]).length < n.toNat - p.length
     rw [List.length_append, List.length_singleton]
     omega
   ·by_cases hn : n < 0
    ·rw [par_neg hx0 hn]
     repeat (first
      | refine uA ?_
      | refine uB ?_
      | refine uH ?_
      | refine AWp.ret ?_
      | refine thenA_r ?_
      | refine kT ?_
      | refine kU ?_
      | (refine rG 4 ?_
         refine kA ?_
         refine qr7 (AList.lenOw tyOk) ?_
         refine kA ?_
         refine qr5f aJ ?_
         refine kA ?_
         (iterate 3 refine qr2 aG ?_)
         refine qr4 aR ?_
         refine aB ?_)
      | (refine rG 6 ?_
         refine kA ?_
         refine qr5t aK ?_
         refine kA ?_
         (iterate 2 refine qr2 aG ?_)
         refine qr4 aS ?_
         refine kA ?_
         (iterate 3 refine qr2 aG ?_)
         refine qr4 aS ?_
         refine aB ?_)
      | (refine rG 7 ?_
         (iterate 2 refine kC ?_)
         refine aB ?_))
     exact ⟨mkSt 40 [(2, .c (wpL [])), (3, .c (bC false))] [] [], [], Wk.mk [] rfl rfl rfl ⟨⟨_, rfl, .c (LeC.nils _ _)⟩, ⟨_, rfl, .c (LeC.refl _ rfl)⟩, trivial⟩ trivial, rfl, rfl, ARets.two (x := .c _) (y := .c _) (ARes.tmp rfl rfl) (ARes.tmp rfl rfl)⟩
    rw [par_end hx0 hn hx hlt]
    by_cases ht : t = []
    ·subst ht
     rw [if_pos rfl]
     have hz : ¬ ((0 : Nat) : Int) > 0 := by omega
     repeat (first
      | refine uA ?_
      | refine uB ?_
      | refine uG ?_
      | refine uH ?_
      | refine AWp.ret ?_
      | refine kU ?_
      | (refine rG 4 ?_
         refine kA ?_
         refine qr7 (AList.lenOw tyOk) ?_
         refine kA ?_
         refine qr5f aJ ?_
         refine kA ?_
         (iterate 3 refine qr2 aG ?_)
         refine qr4 aR ?_
         refine aB ?_)
      | (refine rG 6 ?_
         refine kA ?_
         refine qr5f aJ ?_
         (iterate 2 refine kA ?_)
         refine AList.callM [50] [] [] [rsB (some [])] [] [rsB (some [])] [] [rsB (some [])] [] rfl rfl FnV.func rfl Try.func72 rfl (by kernel_rfl) (rs_lend rfl) (trivial) rfl (by exact ⟨sb_arg, trivial⟩) (.c (.imm _ rfl)) (rs_back) (trivial) (hb) ?_
         refine qr4 aR ?_
         (iterate 2 refine kA ?_)
         refine AList.callM [50] [] [] [rsB (some [])] [] [rsB (some [])] [] [rsB (some [])] [] rfl rfl FnV.func rfl Try.func74 rfl (by kernel_rfl) (rs_lend rfl) (trivial) rfl (by exact ⟨sb_arg, trivial⟩) (.c (.imm _ rfl)) (rs_back) (trivial) (hl) ?_
         refine qr5f aJ ?_
         refine qr4 aR ?_
         refine aB ?_)
      | (refine rG 8 ?_
         refine kA ?_
         (iterate 2 refine kC ?_)
         refine aB ?_))
     exact ⟨mkSt 40 [(2, .c (wpL p)), (3, .c (bC true))] [] [], [], Wk.mk [] rfl rfl rfl ⟨⟨_, rfl, .c (LeC.fz rfl rfl rfl (fun i _ j _ => ⟨rfl, rowF_imm wtC_imm _ i j⟩))⟩, ⟨_, rfl, .c (LeC.refl _ rfl)⟩, trivial⟩ trivial, rfl, rfl, ARets.two (x := .c _) (y := .c _) (ARes.tmp rfl rfl) (ARes.tmp rfl rfl)⟩
    ·rw [if_neg ht]
     have htl : 0 < t.length := List.length_pos_iff.2 ht
     have hz : (t.length : Int) > 0 := by omega
     repeat (first
      | refine uA ?_
      | refine uB ?_
      | refine uH ?_
      | refine AWp.ret ?_
      | refine thenA_r ?_
      | refine kT ?_
      | refine kU ?_
      | (refine rG 4 ?_
         refine kA ?_
         refine qr7 (AList.lenOw tyOk) ?_
         refine kA ?_
         refine qr5f aJ ?_
         refine kA ?_
         (iterate 3 refine qr2 aG ?_)
         refine qr4 aR ?_
         refine aB ?_)
      | (refine rG 6 ?_
         refine kA ?_
         refine qr5f aJ ?_
         (iterate 2 refine kA ?_)
         refine AList.callM [50] [] [] [rsB (some t)] [] [rsB (some t)] [] [rsB (some t)] [] rfl rfl FnV.func rfl Try.func72 rfl (by kernel_rfl) (rs_lend rfl) (trivial) rfl (by exact ⟨sb_arg, trivial⟩) (.c (.imm _ rfl)) (rs_back) (trivial) (hb) ?_
         refine qr4 aR ?_
         (iterate 2 refine kA ?_)
         refine AList.callM [50] [] [] [rsB (some t)] [] [rsB (some t)] [] [rsB (some t)] [] rfl rfl FnV.func rfl Try.func74 rfl (by kernel_rfl) (rs_lend rfl) (trivial) rfl (by exact ⟨sb_arg, trivial⟩) (.c (.imm _ rfl)) (rs_back) (trivial) (hl) ?_
         refine qr5t aK ?_
         refine qr4 aR ?_
         refine aB ?_)
      | (refine rG 7 ?_
         (iterate 2 refine kC ?_)
         refine aB ?_))
     exact ⟨mkSt 40 [(2, .c (wpL [])), (3, .c (bC false))] [] [], [], Wk.mk [] rfl rfl rfl ⟨⟨_, rfl, .c (LeC.nils _ _)⟩, ⟨_, rfl, .c (LeC.refl _ rfl)⟩, trivial⟩ trivial, rfl, rfl, ARets.two (x := .c _) (y := .c _) (ARes.tmp rfl rfl) (ARes.tmp rfl rfl)⟩
end Go.Proofs.Ytekkldgmjdllbaa
end
