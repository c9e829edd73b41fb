/- Parts of the proof: AMemD, A24m, A24p. -/
import Derived.Test.YtekkldgmjdllbaaG08
import Derived.Test.YtekkldgmjdllbaaG07
import Derived.Laws.Cover3
import Derived.Test.YtekkldgmjdllbaaG16
import Derived.Test.YtekkldgmjdllbaaG15
set_option linter.unusedSimpArgs false
set_option linter.unusedVariables false
section
namespace Go.AV
open Go Go.RowKit Go.Flow
section
variable {P : Program}
def LentC (ids : List Nat) (x y : CV) : Prop := (x = y ∧ immC y = true) ∨ ∃ id i, x = .ow id ∧ posOf ids id = some i ∧ y = .ow (1000 + i)
theorem LentC.mo {ids : List Nat} {x y : CV} {b : Nat} {o : Obj} (h : LentC ids x y) (hx : MoOk x b o) : MoOk y b o := by
 rcases h with ⟨rfl, _⟩ | ⟨id, i, rfl, _, _⟩
 ·exact hx
 ·rcases hx.2 with h | ⟨K, h, _⟩ <;> cases h
def LendOk2 (S : St) (all : List Nat) : List Nat → List AB → Prop
 | [], [] => True
 | id :: ids, B :: bs => (∃ F, S.h id = some ⟨B.row, B.n, B.sz, B.ty, F⟩ ∧ (B.row = true → 0 < B.n) ∧ ∀ k, k < B.n → ∀ j, j < B.sz → LentC all (F k j) (B.F k j)) ∧ LendOk2 S all ids bs
 | _, _ => False
def BackOk (all : List Nat) : List AB → List AB → Prop
 | [], [] => True
 | A :: l, B :: m => (∃ G, A = ⟨B.row, B.n, B.sz, B.ty, G⟩ ∧ ∀ k, k < B.n → ∀ j, j < B.sz → LentC all (B.F k j) (G k j)) ∧ BackOk all l m
 | _, _ => False
section ops
variable {ops : Array Oper} {rest : List Oper} {acc : List (List Nat × List Nat)} {S : St} {Q : List (List Nat × List Nat) → St → Prop} {dst : Option Tmp} {ty : TypeId} {pos : String} {after : Array Edge} {guard : Option (Nat × Bool)}
end ops
theorem boxL {R : CV → CV → Prop} {F : Nat → Nat → CV} {sz : Nat} {l : List CV} (hl : LeL R (cellsFrom (F 0) 0 sz) l) (hz : l.length = sz) : ∀ k, k < 1 → ∀ j, j < sz → R (F k j) (lF l k j) := fun k hk j hj => by
 obtain rfl : k = 0 := by omega
 have key : ∀ (l m : List CV), LeL R l m → ∀ (i : Nat) (x y : CV), l[i]? = some x → m[i]? = some y → R x y := by
  intro l
  induction l with
  | nil => intro m h i x y h1; simp at h1
  | cons a l ih =>
    intro m h i x y h1 h2
    cases m with
    | nil => exact h.elim
    | cons b m =>
      cases i with
      | zero => simp at h1 h2; exact h1 ▸ h2 ▸ h.1
      | succ i => exact ih m h.2 i x y (by simpa using h1) (by simpa using h2)
 have h1 := cellsFrom_get (F 0) sz 0 j hj
 rw [Nat.zero_add] at h1
 have h2 : l[j]? = some (lF l 0 j) := by
  unfold lF
  rw [List.getD, List.getElem?_eq_getElem (by omega)]
  rfl
 exact key _ _ hl j _ _ h1 h2
theorem LentC.ow {all : List Nat} {id q : Nat} (h : (posOf all id).map (fun p => 1000 + p) = some q) : LentC all (.ow id) (.ow q) := by
 obtain ⟨i, h1, rfl⟩ := Option.map_eq_some_iff.1 h
 exact .inr ⟨id, i, rfl, h1, rfl⟩
theorem LendOk2.box {S : St} {all : List Nat} {id sz : Nat} {ty : TypeId} {F : Nat → Nat → CV} {l : List CV} {ids : List Nat} {bs : List AB} (hh : S.h id = some ⟨false, 1, sz, ty, F⟩) (hl : LeL (LentC all) (cellsFrom (F 0) 0 sz) l) (hz : l.length = sz) (hr : LendOk2 S all ids bs) : LendOk2 S all (id :: ids) (⟨false, 1, sz, ty, lF l⟩ :: bs) :=
 ⟨⟨F, hh, fun h => (by cases h), boxL hl hz⟩, hr⟩
theorem LendOk2.row {S : St} {all : List Nat} {id n sz : Nat} {ty : TypeId} {F G : Nat → Nat → CV} {ids : List Nat} {bs : List AB} (hh : S.h id = some ⟨true, n, sz, ty, F⟩) (hn : 0 < n) (hc : ∀ k, k < n → ∀ j, j < sz → F k j = G k j ∧ immC (G k j) = true) (hr : LendOk2 S all ids bs) : LendOk2 S all (id :: ids) (⟨true, n, sz, ty, G⟩ :: bs) :=
 ⟨⟨F, hh, fun _ => hn, fun k hk j hj => .inl (hc k hk j hj)⟩, hr⟩
theorem cellsFrom_len (f : Nat → CV) : ∀ (n j : Nat), (cellsFrom f j n).length = n
 | 0, _ => rfl
 | n + 1, j => congrArg (· + 1) (cellsFrom_len f n (j + 1))
theorem BackOk.box {all : List Nat} {sz : Nat} {ty : TypeId} {l m : List CV} {bs0 bs : List AB} (hl : LeL (LentC all) l m) (hz : Nat.beq l.length sz = true) (hz2 : Nat.beq m.length sz = true) (hr : BackOk all bs0 bs) : BackOk all (⟨false, 1, sz, ty, lF m⟩ :: bs0) (⟨false, 1, sz, ty, lF l⟩ :: bs) :=
 ⟨⟨lF m, rfl, fun k hk j hj => by
   obtain rfl : k = 0 := by have : k < 1 := hk; omega
   have e := Nat.eq_of_beq_eq_true hz
   subst e
   have hc : cellsFrom (lF l 0) 0 l.length = l := by
    refine List.ext_getElem (cellsFrom_len _ _ _) fun i h1 h2 => ?_
    have h3 := cellsFrom_get (lF l 0) l.length 0 i h2
    rw [List.getElem?_eq_getElem h1] at h3
    have h4 : lF l 0 (0 + i) = l[i] := by
     unfold lF
     rw [Nat.zero_add, List.getD, List.getElem?_eq_getElem h2]
     rfl
    rw [h4] at h3
    exact Option.some.inj h3
   exact boxL (F := lF l) (l := m) (by rw [hc]; exact hl) (Nat.eq_of_beq_eq_true hz2) 0 (by omega) j hj⟩, hr⟩
theorem BackOk.row {all : List Nat} {n sz : Nat} {ty : TypeId} {G : Nat → Nat → CV} {bs0 bs : List AB} (hi : ∀ k, k < n → ∀ j, j < sz → immC (G k j) = true) (hr : BackOk all bs0 bs) : BackOk all (⟨true, n, sz, ty, G⟩ :: bs0) (⟨true, n, sz, ty, G⟩ :: bs) :=
 ⟨⟨G, rfl, fun k hk j hj => .inl ⟨rfl, hi k hk j hj⟩⟩, hr⟩
section arr
variable {tab : List (TypeId × TD)} {ops : Array Oper} {rest : List Oper} {acc : List (List Nat × List Nat)} {S : St} {Q : List (List Nat × List Nat) → St → Prop} {dst : Option Tmp} {ty : TypeId} {pos : String} {after : Array Edge} {guard : Option (Nat × Bool)} {x y : Operand}
theorem AList.load1lE (T : tabOk P tab = true) {t : TypeId} {n sz k j : Nat} {F : Nat → Nat → CV} {d : TD} {c : CV} (hl : F k j = c) (hw : S.wants ops { dst, op := .load t x, type := ty, pos, after, guard } = some true) (hd : dOk S.n dst = true)
 (hx : S.opd x = some (.c (.pl n sz F k j))) (ht : assoc tab t = some d) (hk : isOne d.k = true) (hj : j < sz)
 (hn : AList P ops rest (([], []) :: acc) (S.eff dst ⟨.c c, [], []⟩) Q) : AList P ops ({ dst, op := .load t x, type := ty, pos, after, guard } :: rest) acc S Q := by
 subst hl
 exact aV T hw hd hx ht hk hj hn
end arr
end
end Go.AV
end
section
namespace Go.Proofs.Ytekkldgmjdllbaa
open Go.RowKit Go.Flow Go.AV Go.Plain
theorem Wk.trans {A B C : St} (h1 : Wk A B) (h2 : Wk B C) : Wk A C := fun b0 a w h => h2 b0 a w (h1 b0 a w h)
def hitC (a b : Bp) (x y : Bg) (c : Cl) : Bool := decide (xsV a b x y c ≤ 0)
def cnfR (p : Cl → Bool) (L : List Cl) : Cl × Bool := match L.find? p with
 | some c => (c, true)
 | none => (clZ, false)
instance (a b : Bp) : Decidable (cmpOk a b) := by unfold cmpOk; infer_instance
def cnfV (a b : Bp) (x y : Bg) : Cl × Bool := if cmpOk a b then cnfR (hitC a b x y) (alL a.W x y) else (clZ, false)
theorem find_at {p : Cl → Bool} {L : List Cl} {k : Nat} (hk : k < L.length) (h : p (L.getD k clZ) = true) (hn : ∀ i, i < k → p (L.getD i clZ) = false) : L.find? p = some (L.getD k clZ) := by
 have hg : ∀ i (hi : i < L.length), L.getD i clZ = L[i] := fun i hi => by rw [List.getD_eq_getElem?_getD, List.getElem?_eq_getElem hi]; rfl
 rw [List.find?_eq_some_iff_getElem]
 refine ⟨h, k, hk, (hg k hk).symm, fun j hj => ?_⟩
 rw [← hg j (by omega), hn j hj]
 rfl
theorem find_no {p : Cl → Bool} {L : List Cl} (hn : ∀ i, i < L.length → p (L.getD i clZ) = false) : L.find? p = none := by
 rw [List.find?_eq_none]
 intro c hc
 obtain ⟨i, hi, rfl⟩ := List.getElem_of_mem hc
 have := hn i hi
 rw [List.getD_eq_getElem?_getD, List.getElem?_eq_getElem hi] at this
 exact fun h => by rw [show p L[i] = false from this] at h; cases h
def clK (L : List (Int × Int)) (k i : Nat) : Cl := ⟨(L.getD k mvZ).1, (L.getD k mvZ).2, (i : Int) - 4⟩
theorem alI_len (m : Nat) (d : Int × Int) (k : Nat) : (alI m d k).length = k := by unfold alI; simp
end Go.Proofs.Ytekkldgmjdllbaa
end
