/- Parts of the proof: ACut, A25s, A25u, A25v, A25x, A25ro. -/
import Derived.Test.YtekkldgmjdllbaaG07
import Derived.Test.YtekkldgmjdllbaaG23
import Derived.Lib.Builder
import Derived.Lib.UnsafeStr
import Derived.Laws.Externs
import Derived.Lib.BufferRead
import Derived.Test.YtekkldgmjdllbaaG21
import Derived.Test.YtekkldgmjdllbaaG06
import Derived.Test.YtekkldgmjdllbaaG22
import Derived.Test.YtekkldgmjdllbaaG17
import Derived.Laws.Pointers
import Derived.WideKeyMaps
import Derived.MapKept
import Derived.Carry
import Derived.Test.YtekkldgmjdllbaaG18
import Derived.Test.YtekkldgmjdllbaaG16
import Derived.Test.YtekkldgmjdllbaaG19
set_option linter.unusedSimpArgs false
set_option linter.unusedVariables false
section
namespace Go.AV
open Go Go.RowKit Go.Flow
theorem AWp.cut {P : Program} {x : Code} {Q : Exit → St → Prop} {S : St} (S1 : St) (h : AWp P x (fun e S' => e = .normal ∧ Wk S' S1) S) (hz : ∀ S', Wk S' S1 → Q .normal S') : AWp P x Q S :=
 h.mono fun e S' h => by obtain ⟨rfl, hw⟩ := h; exact hz S' hw
end Go.AV
end
section
namespace Go.Proofs.Ytekkldgmjdllbaa
open Go.RowKit Go.Flow Go.AV Go.Plain
abbrev iOk (v : Int) : Prop := -9223372036854775808 ≤ v ∧ v ≤ 9223372036854775807
def lOk (l : List Int) : Prop := l.length ≤ 1000000 ∧ ∀ k, k < l.length → iOk (l.getD k 0)
def PrR (p : List Wt) : Prop := p.length ≤ 1000000 ∧ ∀ k, k < p.length → lOk (p.getD k wtZ).1 ∧ lOk (p.getD k wtZ).2
theorem PrR.ok {p : List Wt} (h : PrR p) : PrOk p := ⟨h.1, fun k hk => ⟨(h.2 k hk).1.1, (h.2 k hk).2.1⟩⟩
structure Ca5 where
 nA : Nat
 fA : Nat → Int
 nB : Nat
 fB : Nat → Int
 nX : Nat
 fX : Nat → Int
 nY : Nat
 fY : Nat → Int
abbrev ca5C (c : Ca5) : List CV := [.ls c.nA 1 (iF c.fA), .ls c.nB 1 (iF c.fB), .ls c.nX 1 (iF c.fX), .ls c.nY 1 (iF c.fY)]
def Ca5.ok (c : Ca5) : Prop := c.nA ≤ 4611686018427387904 ∧ c.nB ≤ 4611686018427387904 ∧ c.nX ≤ 4611686018427387904 ∧ c.nY ≤ 4611686018427387904
abbrev l1 (v : Int) : CV := .ls 1 1 (sF [iC v] 1)
end Go.Proofs.Ytekkldgmjdllbaa
end
section
namespace Go.Proofs.Ytekkldgmjdllbaa
open Go.ChangeShapes Go.WideShapes Go.ChangeAt Go.RowKit Go.Flow Go.AV
theorem cellsW25 : Try.prog.cellsOf 62 = 2 := by kernel_rfl
theorem bytesW25 : Try.prog.bytesOf 62 = 48 := by kernel_rfl
section
variable {H : Type} {enc : TypeId × Value → H} {W : World}
theorem opn_ca5 : Opn enc Try.prog W 24 ca5C Ca5.ok :=
 (Opn.struct Try.underlying24 (n := 4) (by kernel_rfl) (.cons opn_ints rfl cellsL (.cons opn_ints rfl cellsL (.cons opn_ints rfl cellsL (.cons opn_ints rfl cellsL .nil))))).conv fun a h =>
   ⟨⟨a.1.length, fun k => a.1.getD k 0, a.2.1.length, fun k => a.2.1.getD k 0, a.2.2.1.length, fun k => a.2.2.1.getD k 0, a.2.2.2.1.length, fun k => a.2.2.2.1.getD k 0⟩,
    ⟨h.1.1, h.2.1.1, h.2.2.1.1, h.2.2.2.1.1⟩, fun _ h => h⟩
theorem opn_bg2 : Opn enc Try.prog W 46 (fun q : Bg × Bg => bgC q.1 ++ bgC q.2) (fun _ => True) :=
 (opn_bg.array Try.underlying46 (by kernel_rfl : Try.prog.cellsOf 33 = 4) (by kernel_rfl)).conv fun L h => by
   obtain ⟨h1, h2⟩ := h
   obtain ⟨x, y, rfl⟩ : ∃ x y, L = [x, y] := by
    match L, h1 with
    | [x, y], _ => exact ⟨x, y, rfl⟩
   exact ⟨(x, y), trivial, fun _ h => h⟩
abbrev q3C (q : Int × Int × Int) : List CV := [iC q.1, iC q.2.1, iC q.2.2]
abbrev q3Ok (q : Int × Int × Int) : Prop := iOk q.1 ∧ iOk q.2.1 ∧ iOk q.2.2
theorem opn_q3r : Opn enc Try.prog W 25 q3C q3Ok :=
 (opn_int.array Try.underlying25 cellsI (by kernel_rfl)).conv fun L h => by
   obtain ⟨h1, h2⟩ := h
   obtain ⟨x, y, z, rfl⟩ : ∃ x y z, L = [x, y, z] := by
    match L, h1 with
    | [x, y, z], _ => exact ⟨x, y, z, rfl⟩
   exact ⟨(x, y, z), ⟨h2 x (by simp), h2 y (by simp), h2 z (by simp)⟩, fun _ h => h⟩
theorem opn_q33r : Opn enc Try.prog W 26 (fun q : (Int × Int × Int) × Int × Int × Int => q3C q.1 ++ q3C q.2) (fun q => q3Ok q.1 ∧ q3Ok q.2) :=
 (opn_q3r.array Try.underlying26 (by kernel_rfl : Try.prog.cellsOf 25 = 3) (by kernel_rfl)).conv fun L h => by
   obtain ⟨h1, h2⟩ := h
   obtain ⟨x, y, rfl⟩ : ∃ x y, L = [x, y] := by
    match L, h1 with
    | [x, y], _ => exact ⟨x, y, rfl⟩
   exact ⟨(x, y), ⟨h2 x (by simp), h2 y (by simp)⟩, fun _ h => h⟩
theorem opn_q4r : Opn enc Try.prog W 73 (fun q : Int × Int × Int × Int => [iC q.1, iC q.2.1, iC q.2.2.1, iC q.2.2.2]) (fun q => iOk q.1 ∧ iOk q.2.1 ∧ iOk q.2.2.1 ∧ iOk q.2.2.2) :=
 (opn_int.array Try.underlying73 cellsI (by kernel_rfl)).conv fun L h => by
   obtain ⟨h1, h2⟩ := h
   obtain ⟨x, y, z, u, rfl⟩ : ∃ x y z u, L = [x, y, z, u] := by
    match L, h1 with
    | [x, y, z, u], _ => exact ⟨x, y, z, u, rfl⟩
   exact ⟨(x, y, z, u), ⟨h2 x (by simp), h2 y (by simp), h2 z (by simp), h2 u (by simp)⟩, fun _ h => h⟩
def rwOk (p : List Wt) : Prop := p.length ≤ 4611686018427387904 ∧ (∀ k, k < p.length → (p.getD k wtZ).1.length ≤ 4611686018427387904 ∧ (p.getD k wtZ).2.length ≤ 4611686018427387904) ∧ ∀ k, k < p.length → (∀ i, i < (p.getD k wtZ).1.length → iOk ((p.getD k wtZ).1.getD i 0)) ∧ ∀ i, i < (p.getD k wtZ).2.length → iOk ((p.getD k wtZ).2.getD i 0)
theorem opn_wt : Opn enc Try.prog W 62 wtC (fun w => (w.1.length ≤ 4611686018427387904 ∧ ∀ a ∈ w.1, -9223372036854775808 ≤ a ∧ a ≤ 9223372036854775807) ∧ w.2.length ≤ 4611686018427387904 ∧ ∀ a ∈ w.2, -9223372036854775808 ≤ a ∧ a ≤ 9223372036854775807) :=
 (Opn.struct Try.underlying62 (n := 2) (by kernel_rfl) (.cons opn_ints rfl cellsL (.cons opn_ints rfl cellsL .nil))).conv fun a h => ⟨(a.1, a.2.1), ⟨h.1, h.2.1⟩, fun _ h => h⟩
theorem opn_wts : Opn enc Try.prog W 27 (fun p : List Wt => [wpC p]) rwOk :=
 (opn_wt.slice wtZ Try.underlying27 cellsW25 bytesW25 (fun _ => rfl) (fun _ => rfl)).mono fun p h => by
   have hg : ∀ k, k < p.length → p.getD k wtZ ∈ p := fun k hk => mem_getD hk
   have hi : ∀ (l : List Int), (∀ a ∈ l, -9223372036854775808 ≤ a ∧ a ≤ 9223372036854775807) → ∀ i, i < l.length → iOk (l.getD i 0) := fun l hl i hi => hl _ (mem_getD hi)
   refine ⟨by have := reachBytes_lt; omega, fun k hk => ?_, fun k hk => ?_⟩
   ·exact ⟨(h.2 _ (hg k hk)).1.1, (h.2 _ (hg k hk)).2.1⟩
   ·exact ⟨hi _ (h.2 _ (hg k hk)).1.2, hi _ (h.2 _ (hg k hk)).2.2⟩
end
end Go.Proofs.Ytekkldgmjdllbaa
end
