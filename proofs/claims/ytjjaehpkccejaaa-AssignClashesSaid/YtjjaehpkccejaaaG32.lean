/- Parts of the proof: A28i, A28v, A28w, A28x, A28ro. -/
import Derived.Test.YtjjaehpkccejaaaG29
import Derived.Test.YtjjaehpkccejaaaG21
import Derived.Test.YtjjaehpkccejaaaG22
import Derived.Test.YtjjaehpkccejaaaG31
import Derived.Test.YtjjaehpkccejaaaG27
import Derived.Test.YtjjaehpkccejaaaG23
set_option linter.unusedSimpArgs false
set_option linter.unusedVariables false
section
namespace Go.Proofs.Ytjjaehpkccejaaa
open Go.RowKit Go.Flow Go.AV Go.Plain
abbrev bpB (L : List Bp) : AB := ⟨true, L.length, 3, 47, rowF bpC bpZ L⟩
end Go.Proofs.Ytjjaehpkccejaaa
end

section
namespace Go.Proofs.Ytjjaehpkccejaaa
open Go.RowKit Go.Flow Go.AV Go.Plain
def md21 (bl sh : Int) : Rd := ⟨bl % 3, 1 + sh % ((2 * (bl % 3) + 1) * (2 * (bl % 3) + 1))⟩
def pasD (d : Nat → Bool) (W H : Int) (e : Nat → Bool) (p : Nat) : Bool := hasB 6 5 d ((p % 6 : Nat) : Int) ((p / 6 : Nat) : Int) || hasB W H e (((p % 6 : Nat) : Int) - 0) (((p / 6 : Nat) : Int) - 0)
end Go.Proofs.Ytjjaehpkccejaaa
end

section
namespace Go.Proofs.Ytjjaehpkccejaaa
open Go.RowKit Go.Flow Go.AV Go.Plain
section
variable (ll : List (List Int))
abbrev lsL : CV := .ls ll.length 1 (fun k _ => lsI (ll.getD k []))
/-- The numbers that are drawn from. -/
def l0 : List Int := ll.getD 0 []
def nxA (a : Nat) : Nat := dat (l0 ll).length a
def dvA (a : Nat) (m : Int) : Int := dval (l0 ll).length (fI (l0 ll)) a m
theorem dvA_bd (a : Nat) (m : Int) (h : 0 < m) : 0 ≤ dvA ll a m ∧ dvA ll a m < m := dval_bd _ _ _ _ h
theorem nxA_le {a : Nat} (h : a ≤ (l0 ll).length) : nxA ll a ≤ (l0 ll).length := dat_le h
def rdIter : Nat → Nat × List Rd
 | 0 => (nxA ll 0, [])
 | k + 1 => (nxA ll (nxA ll (rdIter k).1), (rdIter k).2 ++ [md21 (dvA ll (rdIter k).1 2) (dvA ll (nxA ll (rdIter k).1) 4)])
theorem rdIter_len : ∀ k, (rdIter ll k).2.length = k
 | 0 => rfl
 | k + 1 => by simp [rdIter, rdIter_len k]
theorem rdIter_le : ∀ k, (rdIter ll k).1 ≤ (l0 ll).length
 | 0 => nxA_le ll (Nat.zero_le _)
 | k + 1 => nxA_le ll (nxA_le ll (rdIter_le k))
def rdN : Nat := (dvA ll 0 3).toNat
def g16 (f : Nat → Int) (k : Nat) : Int := if k = 0 then 16 else if k = 1 then 12 else f (k - 2)
abbrev mkN (l : List Int) : Nat := 2 + l.length
def mdD (at_ : Nat) : Nat → Bool := if at_ < ll.length then rcropB (mdW (mkN (ll.getD at_ [])) (g16 (fI (ll.getD at_ [])))) (mdH (mkN (ll.getD at_ [])) (g16 (fI (ll.getD at_ [])))) (mdF (mkN (ll.getD at_ [])) (g16 (fI (ll.getD at_ []))) (mdW (mkN (ll.getD at_ [])) (g16 (fI (ll.getD at_ [])))) (mdH (mkN (ll.getD at_ [])) (g16 (fI (ll.getD at_ [])))) 12 (dat (mkN (ll.getD at_ [])) (dat (mkN (ll.getD at_ [])) 0), fun _ => false)) 0 0 6 else fun _ => false
structure Mi8 where
 a : Nat
 at_ : Nat
 base : Bp
 chs : List Bp
abbrev bp65 (d : Nat → Bool) : Bp := ⟨6, 5, 30, d⟩
def miD (s : Mi8) : Nat → Bool := if dvA ll s.a 3 = 0 then pasD (mdD ll s.at_) s.base.W s.base.H s.base.d else mdD ll s.at_
def miStep (s : Mi8) : Mi8 := ⟨nxA ll s.a, s.at_ + 1, if s.chs = [] then bp65 (miD ll s) else s.base, s.chs ++ [bp65 (miD ll s)]⟩
def miIter : Nat → Mi8 → Mi8
 | 0, s => s
 | k + 1, s => miStep ll (miIter k s)
structure Mo8 where
 a : Nat
 at_ : Nat
 base : Bp
 C : List (List Bp)
 O : List Bg
 F : List Bp
 T : List Bg
def tabN (x : Int) : Nat := [2, 1, 2, 3, 3, 0].getD x.toNat 0
def budF (a : Nat) (k : Nat) : Int := [dvA ll a 3, dvA ll (nxA ll a) 3, dvA ll (nxA ll (nxA ll a)) 4 / 3, dvA ll (nxA ll (nxA ll (nxA ll a))) 3].getD k 0
def budV (a : Nat) : Bg := bgN 4 (budF ll a)
def manyN (b : Bool) (s : Mo8) : Nat := if b = true then tabN (dvA ll s.a 6) else 1
def manyA (b : Bool) (s : Mo8) : Nat := if b = true then nxA ll s.a else s.a
def moI (b : Bool) (s : Mo8) : Mi8 := miIter ll (manyN ll b s) ⟨manyA ll b s, s.at_, s.base, []⟩
def moStep (b : Bool) (s : Mo8) : Mo8 :=
 if b = true then ⟨nxA ll (nxA ll (nxA ll (nxA ll (moI ll b s).a))), (moI ll b s).at_, (moI ll b s).base, s.C ++ [(moI ll b s).chs], s.O ++ [budV ll (moI ll b s).a], s.F, s.T⟩
 else ⟨nxA ll (nxA ll (nxA ll (nxA ll (moI ll b s).a))), (moI ll b s).at_, (moI ll b s).base, s.C, s.O, s.F ++ [(moI ll b s).chs.getD 0 bpZ], s.T ++ [budV ll (moI ll b s).a]⟩
def lsN28 : Nat := (dvA ll (rdIter ll (rdN ll)).1 4).toNat
def fxN28 : Nat := (dvA ll (nxA ll (rdIter ll (rdN ll)).1) 3).toNat
def moIter : Nat → Mo8
 | 0 => ⟨nxA ll (nxA ll (rdIter ll (rdN ll)).1), 1, ⟨0, 0, 0, fun _ => false⟩, [], [], [], []⟩
 | k + 1 => moStep ll (decide (k < lsN28 ll)) (moIter k)
def made28 : Pb := ⟨(rdIter ll (rdN ll)).2, (moIter ll (lsN28 ll + fxN28 ll)).C, (moIter ll (lsN28 ll + fxN28 ll)).F, (moIter ll (lsN28 ll + fxN28 ll)).O, (moIter ll (lsN28 ll + fxN28 ll)).T⟩
theorem tabN_le (x : Int) : tabN x ≤ 3 := by
 unfold tabN
 generalize x.toNat = n
 match n with
 | 0 => decide
 | 1 => decide
 | 2 => decide
 | 3 => decide
 | 4 => decide
 | 5 => decide
 | n + 6 => simp
theorem manyN_le (b : Bool) (s : Mo8) : manyN ll b s ≤ 3 := by
 unfold manyN
 split
 ·exact tabN_le _
 ·decide
/-- What holds of the inner rounds. -/
def MiOk (a0 : Nat) (k : Nat) (s : Mi8) : Prop := s.a ≤ (l0 ll).length ∧ s.at_ = a0 + k ∧ chk s.base.W s.base.H s.base.n = 0 ∧ s.chs.length = k ∧ ∀ b ∈ s.chs, ∃ d, b = bp65 d
theorem miStep_ok {a0 k : Nat} {s : Mi8} (h : MiOk ll a0 k s) : MiOk ll a0 (k + 1) (miStep ll s) := by
 obtain ⟨h1, h2, h3, h4, h5⟩ := h
 refine ⟨nxA_le ll h1, by show s.at_ + 1 = _; omega, ?_, by simp [miStep, h4], fun b hb => ?_⟩
 ·unfold miStep
  dsimp only
  split
  ·exact (by decide : chk 6 5 30 = 0)
  ·exact h3
 ·rcases List.mem_append.1 (show b ∈ s.chs ++ [bp65 (miD ll s)] from hb) with h | h
  ·exact h5 b h
  ·exact ⟨_, List.mem_singleton.1 h⟩
theorem miIter_ok {a0 : Nat} {s : Mi8} (h : MiOk ll a0 0 s) : ∀ k, MiOk ll a0 k (miIter ll k s)
 | 0 => h
 | k + 1 => miStep_ok ll (miIter_ok h k)
structure MoOk28 (k : Nat) (s : Mo8) : Prop where
 a : s.a ≤ (l0 ll).length
 at_ : s.at_ ≤ 1 + 3 * k
 base : chk s.base.W s.base.H s.base.n = 0
 C : s.C.length ≤ k
 F : s.F.length ≤ k
 O : s.O.length = s.C.length
 T : s.T.length = s.F.length
 Cc : ∀ l ∈ s.C, l.length ≤ 3 ∧ ∀ b ∈ l, ∃ d, b = bp65 d
 Ff : ∀ b ∈ s.F, ∃ d, b = bp65 d
theorem moI_ok {k : Nat} {b : Bool} {s : Mo8} (h : MoOk28 ll k s) : MiOk ll s.at_ 0 ⟨manyA ll b s, s.at_, s.base, []⟩ :=
 ⟨by
   unfold manyA
   dsimp only
   split
   ·exact nxA_le ll h.a
   ·exact h.a, rfl, h.base, rfl, fun _ hb => by cases hb⟩
theorem moStep_ok {k : Nat} {b : Bool} {s : Mo8} (h : MoOk28 ll k s) : MoOk28 ll (k + 1) (moStep ll b s) := by
 have hi := miIter_ok ll (moI_ok ll (b := b) h) (manyN ll b s)
 obtain ⟨h1, h2, h3, h4, h5⟩ := hi
 change (moI ll b s).a ≤ _ at h1
 change (moI ll b s).at_ = _ at h2
 change chk (moI ll b s).base.W (moI ll b s).base.H (moI ll b s).base.n = 0 at h3
 change (moI ll b s).chs.length = _ at h4
 change ∀ x ∈ (moI ll b s).chs, _ at h5
 have hm := manyN_le ll b s
 have ha := h.at_
 have h6 := nxA_le ll (nxA_le ll (nxA_le ll (nxA_le ll h1)))
 unfold moStep
 cases b with
 | true =>
   rw [if_pos rfl]
   refine ⟨h6, by show (moI ll true s).at_ ≤ _; omega, h3, by simp; exact h.C, by have := h.F; show s.F.length ≤ _; omega, by simp [h.O], h.T, fun l hl => ?_, h.Ff⟩
   rcases List.mem_append.1 hl with hl | hl
   ·exact h.Cc l hl
   ·obtain rfl := List.mem_singleton.1 hl
    exact ⟨by omega, h5⟩
 | false =>
   rw [if_neg (by decide)]
   refine ⟨h6, by show (moI ll false s).at_ ≤ _; omega, h3, by have := h.C; show s.C.length ≤ _; omega, by simp; exact h.F, h.O, by simp [h.T], h.Cc, fun x hx => ?_⟩
   rcases List.mem_append.1 hx with hx | hx
   ·exact h.Ff x hx
   ·obtain rfl := List.mem_singleton.1 hx
    exact h5 _ (getD_mem28 (by rw [h4]; exact Nat.lt_of_lt_of_eq (Nat.zero_lt_one) rfl))
theorem moIter_ok : ∀ k, MoOk28 ll k (moIter ll k)
 | 0 => ⟨nxA_le ll (nxA_le ll (rdIter_le ll _)), Nat.le_refl _, (by decide : chk 0 0 0 = 0), Nat.le_refl _, Nat.le_refl _, rfl, rfl, (fun _ h => by cases h), (fun _ h => by cases h)⟩
 | k + 1 => moStep_ok ll (moIter_ok k)
end
end Go.Proofs.Ytjjaehpkccejaaa
end

section
namespace Go.AV
open Go Go.RowKit Go.Flow
theorem AText.weak {P : Program} {ops : Array Oper} {l : List Oper} {S S' : St} {Q : St → Prop} (hw : Wk S S') (h : AText P ops l S' Q) : AText P ops l S Q := ⟨fun rd b0 a w K hR hK => h.get rd b0 a w K (hw b0 a w hR) hK⟩
end Go.AV
namespace Go.Proofs.Ytjjaehpkccejaaa
open Go.RowKit Go.Flow Go.AV Go.Plain
abbrev bgB (L : List Bg) : AB := ⟨true, L.length, 4, 42, rowF bgC bgZ L⟩
abbrev nl8 : CV := .p (.slice none 0 0)
def LlOk (ll : List (List Int)) : Prop := ll.length ≤ 6000000000000 ∧ ∀ k, k < ll.length → (ll.getD k []).length * 8 ≤ 140737488351232
end Go.Proofs.Ytjjaehpkccejaaa
end

section
namespace Go.Proofs.Ytjjaehpkccejaaa
open Go.ChangeShapes Go.WideShapes Go.ChangeAt Go.RowKit Go.Flow Go.AV
theorem reachBytes_le : reachBytes ≤ 140737488351232 := by decide
theorem bytesL28 : Try.prog.bytesOf 25 = 24 := by kernel_rfl
section
variable {H : Type} {enc : TypeId × Value → H} {W : World}
theorem opn_ints28 : Opn enc Try.prog W 25 (fun L : List Int => [lsI L]) (fun L => L.length * 8 ≤ 140737488351232 ∧ ∀ a ∈ L, -9223372036854775808 ≤ a ∧ a ≤ 9223372036854775807) :=
 (opn_int.slice1 0 Try.underlying25 cellsI bytesI fun _ => rfl).mono fun L h => ⟨by have := reachBytes_le; omega, h.2⟩
theorem opn_ll : Opn enc Try.prog W 22 (fun L : List (List Int) => [lsL L]) LlOk :=
 (opn_ints28.slice1 [] Try.underlying22 cellsL bytesL28 fun _ => rfl).mono fun L h => ⟨by have := reachBytes_le; omega, fun k hk => (h.2 _ (getD_mem28 hk)).1⟩
theorem opn_q3 : Opn enc Try.prog W 23 (fun q : Int × Int × Int => [iC q.1, iC q.2.1, iC q.2.2]) (fun q => -9223372036854775808 ≤ q.2.1 ∧ q.2.1 ≤ 9223372036854775807) :=
 (opn_int.array Try.underlying23 cellsI (by kernel_rfl)).conv fun L h => by
   obtain ⟨h1, h2⟩ := h
   obtain ⟨x, y, z, rfl⟩ : ∃ x y z, L = [x, y, z] := by
    match L, h1 with
    | [x, y, z], _ => exact ⟨x, y, z, rfl⟩
   exact ⟨(x, y, z), h2 y (by simp), fun _ h => h⟩
theorem opn_q33 : Opn enc Try.prog W 24 (fun q : (Int × Int × Int) × Int × Int × Int => [iC q.1.1, iC q.1.2.1, iC q.1.2.2, iC q.2.1, iC q.2.2.1, iC q.2.2.2]) (fun q => (-9223372036854775808 ≤ q.1.2.1 ∧ q.1.2.1 ≤ 9223372036854775807) ∧ -9223372036854775808 ≤ q.2.2.1 ∧ q.2.2.1 ≤ 9223372036854775807) :=
 (opn_q3.array Try.underlying24 (by kernel_rfl : Try.prog.cellsOf 23 = 3) (by kernel_rfl)).conv fun L h => by
   obtain ⟨h1, h2⟩ := h
   obtain ⟨x, y, rfl⟩ : ∃ x y, L = [x, y] := by
    match L, h1 with
    | [x, y], _ => exact ⟨x, y, rfl⟩
   exact ⟨(x, y), ⟨h2 x (by simp), h2 y (by simp)⟩, fun _ h => h⟩
theorem opn_q4 : Opn enc Try.prog W 71 (fun q : Int × Int × Int × Int => [iC q.1, iC q.2.1, iC q.2.2.1, iC q.2.2.2]) (fun _ => True) :=
 (opn_int.array Try.underlying71 cellsI (by kernel_rfl)).conv fun L h => by
   obtain ⟨h1, h2⟩ := h
   obtain ⟨x, y, z, u, rfl⟩ : ∃ x y z u, L = [x, y, z, u] := by
    match L, h1 with
    | [x, y, z, u], _ => exact ⟨x, y, z, u, rfl⟩
   exact ⟨(x, y, z, u), trivial, fun _ h => h⟩
structure Pr28 where
 A : List Int
 B : List Int
 X : Bg
 Y : Bg
abbrev pr28C (c : Pr28) : List CV := [.ls c.A.length 1 (iF fun k => c.A.getD k 0), .ls c.B.length 1 (iF fun k => c.B.getD k 0)] ++ bgC c.X ++ bgC c.Y
theorem opn_pr : Opn enc Try.prog W 44 pr28C (fun c => c.A.length ≤ 4611686018427387904 ∧ c.B.length ≤ 4611686018427387904) :=
 (Opn.struct Try.underlying44 (n := 10) (by kernel_rfl) (.cons opn_ints rfl cellsL (.cons opn_ints rfl cellsL (.cons opn_bg rfl (by kernel_rfl : Try.prog.cellsOf 42 = 4) (.cons opn_bg rfl (by kernel_rfl : Try.prog.cellsOf 42 = 4) .nil))))).conv fun a h =>
   ⟨⟨a.1, a.2.1, a.2.2.1, a.2.2.2.1⟩, ⟨h.1.1, h.2.1.1⟩, fun _ h => h⟩
end
end Go.Proofs.Ytjjaehpkccejaaa
end
