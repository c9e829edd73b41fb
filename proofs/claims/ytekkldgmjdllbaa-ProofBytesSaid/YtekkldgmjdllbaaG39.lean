/- Parts of the proof: AIter, A25v, A25w, A25x, A25ro. -/
import Derived.Test.YtekkldgmjdllbaaG28
import Derived.WideKeyMaps
import Derived.MapKept
import Derived.Carry
import Derived.Test.YtekkldgmjdllbaaG37
import Derived.Test.YtekkldgmjdllbaaG25
import Derived.Test.YtekkldgmjdllbaaG38
import Derived.Test.YtekkldgmjdllbaaG23
import Derived.Test.YtekkldgmjdllbaaG26
set_option linter.unusedSimpArgs false
set_option linter.unusedVariables false
section
namespace Go.AV
open Go Go.RowKit Go.Flow Go.ChangeMaps
section
variable {P : Program} {tab : List (TypeId × TD)}
def itK (b : Nat) (s : ByteArray) (pos : Nat) (b' : Nat) (o : Obj) : Prop := b' = b ∧ o = .stringIter s pos
def itF (b : Nat) (s : ByteArray) (pos : Nat) (_ _ : Nat) : CV := .mo (itK b s pos)
abbrev itB (ty : TypeId) (b : Nat) (s : ByteArray) (pos : Nat) : AB := ⟨false, 1, 1, ty, itF b s pos⟩
abbrev itP (b : Nat) : CV := .p (.pointer (some ⟨b, 0, none⟩))
theorem at_it {b0 : Base} {σ : Nat → Option Value} {h : Nat → Option AB} {w : World} (H : HRel b0 σ h w) {id : Nat} {ty : TypeId} {b pos : Nat} {s : ByteArray} (hh : h id = some (itB ty b s pos)) : σ id = some (.map (some b)) ∧ w.heap[b]? = some (.stringIter s pos) := by
 obtain ⟨v, e1, e2⟩ := H.blk id _ hh
 rcases e2 with ⟨h1, _⟩ | ⟨b', cap, cs, h1, _, _, h4⟩ | ⟨_, _, _, b', o, h1, h2, h3⟩
 ·cases h1
 ·obtain ⟨u, _, k2⟩ := h4 0 (show 0 < 1 by omega) 0 (show 0 < 1 by omega)
  exact k2.2.elim
 ·subst h1
  rcases h3.2 with h3 | ⟨K', h3, h4⟩
  ·cases h3
  ·cases h3
   obtain ⟨rfl, rfl⟩ := h4
   exact ⟨e1, h2⟩
section txt
variable {ops : Array Oper} {rest : List Oper} {S : St} {Q : St → Prop} {ty : TypeId} {pos : String} {after : Array Edge} {guard : Option (Nat × Bool)}
theorem AText.rangeStr {id : Nat} {t : TypeId} {x : Operand} {s : ByteArray} (hw : S.wants ops { dst := some id, op := .range t x, type := ty, pos, after, guard } = some true) (hd : dOk S.n (some id) = true) (hf : S.fr id = true) (hx : S.opd x = some (.c (.p (.string s)))) (ht : P.underlying t = some .string)
 (hn : ∀ b, AText P ops rest (S.eff (some id) ⟨.c (itP b), [(id, some (itB t b s 0))], [id]⟩) Q) : AText P ops ({ dst := some id, op := .range t x, type := ty, pos, after, guard } :: rest) S Q := ⟨fun rd b0 a w K hR hK => by
 obtain ⟨σ, R⟩ := hR
 obtain ⟨hno, hlow⟩ := R.fr id hf
 have e1 : a.eval x = .string s := (opd_rep R hx).2
 have hrun : (execOp a.eval { dst := some id, op := .range t x, type := ty, pos, after, guard }).run P w = .ok (.value (.pointer (some ⟨w.heap.size, 0, none⟩))) (w.alloc (.stringIter s 0)) := by
  simp [execOp, e1, Instr.range, run_underlying ht, newObj, Sem.run, Result.andThen]
 unfold wpListIn
 rw [if_pos (wants_rep R hw)]
 refine GoesA.wpIn (K0 := fun v w' => v = .pointer (some ⟨w.heap.size, 0, none⟩) ∧ w' = w.alloc (.stringIter s 0)) (.inl (by rw [hrun]; exact ⟨rfl, rfl⟩)) fun v w' ⟨k1, k2⟩ => ?_
 subst k1 k2
 have hE : Ext w (w.alloc (.stringIter s 0)) := (Ext.refl w).alloc _
 have hsub : ∀ i u, σ i = some u → put σ id (some (.map (some w.heap.size))) i = some u := fun i u h => by
  rw [put_ne _ _ (fun e => by rw [e, hno] at h; cases h)]; exact h
 obtain ⟨H, _, hO⟩ := R.hp.put (id := id) (B' := itB t w.heap.size s 0) (v' := .map (some w.heap.size)) (σ' := put σ id (some (.map (some w.heap.size)))) (h' := look [(id, some (itB t w.heap.size s 0))] S.h) (w' := w.alloc (.stringIter s 0)) hsub (put_same _ _ _) (put_same _ _ _) (fun i hi => .inr (put_ne _ _ hi)) (Keep.of_ext hE)
  (fun i u hi => by
    have h1 := (b0.one i u hi).1
    rw [look_one, put_ne _ _ (by omega)]
    exact (R.hp.fx i u hi).2) (fun i hi => put_ne _ _ (by omega))
  (fun i u b hi h1 h2 h3 => by
    have h1' : S.h i ≠ none := by rw [look_one, put_ne _ _ hi] at h1; exact h1
    exact Below.block hE b (R.hp.lt ⟨i, u, h1', h2, h3⟩))
  (.inr <| .inr ⟨rfl, rfl, rfl, w.heap.size, _, rfl, heap_alloc_new w _, rfl, .inr ⟨_, rfl, rfl, rfl⟩⟩)
  (fun b hb => by
    cases hb
    refine ⟨.inl R.ext.size, .inr (Nat.le_refl _), fun i u hi h1 h2 h3 => ?_⟩
    have h1' : S.h i ≠ none := by rw [look_one, put_ne _ _ hi] at h1; exact h1
    have := R.hp.lt ⟨i, u, h1', h2, h3⟩
    omega)
 exact (hn w.heap.size).get rd b0 _ _ K ⟨put σ id (some (.map (some w.heap.size))), R.step (e := ⟨.c (itP w.heap.size), [(id, some (itB t w.heap.size s 0))], [id]⟩) hd hsub (Keep.of_ext hE) H hO (fun _ => ⟨rfl, rfl⟩) (fun i hi => by
  by_cases e : i = id
  ·exact .inr (by simp [e])
  ·rw [put_ne _ _ e] at hi; exact .inl hi)⟩ hK⟩
end txt
section ops
variable {ops : Array Oper} {rest : List Oper} {acc : List (List Nat × List Nat)} {S : St} {Q : List (List Nat × List Nat) → St → Prop} {dst : Option Tmp} {ty : TypeId} {pos : String} {after : Array Edge} {guard : Option (Nat × Bool)}
theorem AList.nextEnd {it : Operand} {id b n : Nat} {s : ByteArray} {bt : TypeId} (hw : S.wants ops { dst, op := .next it true, type := ty, pos, after, guard } = some true) (hd : dOk S.n dst = true)
 (hx : S.opd it = some (.c (itP b))) (hh : S.h id = some (itB bt b s n)) (hp : Nat.ble s.size n = true)
 (hn : AList P ops rest (([id], []) :: acc) (S.eff dst ⟨.tu [.c (.p (.bool false))], [], []⟩) Q) : AList P ops ({ dst, op := .next it true, type := ty, pos, after, guard } :: rest) acc S Q :=
 AList.val [id] _ hw hd (fun S1 h1 hr b0 σ a w R => by
  have e1 : a.eval it = .pointer (some ⟨b, 0, none⟩) := (opd_rep R ((h1 it (by simp [Op.operands])).trans hx)).2
  obtain ⟨-, e2⟩ := at_it R.hp ((hr id (by simp)).trans hh)
  refine ⟨.tuple #[.bool false], ?_, [_], rfl, ⟨rfl, rfl⟩, trivial⟩
  have := Nat.ble_eq.mp hp
  simp [execOp, e1, Instr.next, getObj, Sem.run, e2, Result.andThen, Nat.not_lt.2 this]) hn
theorem AList.nextStr {it : Operand} {id b n wd c : Nat} {s : ByteArray} {bt : TypeId} (hw : S.wants ops { dst, op := .next it true, type := ty, pos, after, guard } = some true) (hd : dOk S.n dst = true)
 (hx : S.opd it = some (.c (itP b))) (hh : S.h id = some (itB bt b s n)) (hp : Nat.blt n s.size = true) (hu : Utf8.decode s n = (c, wd))
 (hn : AList P ops rest (([id], [id]) :: acc) (S.eff dst ⟨.tu [.c (.p (.bool true)), .c (.p (.int .i64 n)), .c (.p (.int .i32 c))], [(id, some (itB bt b s (n + wd)))], []⟩) Q) : AList P ops ({ dst, op := .next it true, type := ty, pos, after, guard } :: rest) acc S Q :=
 AList.cons [id] ⟨.tu [.c (.p (.bool true)), .c (.p (.int .i64 n)), .c (.p (.int .i32 c))], [(id, some (itB bt b s (n + wd)))], []⟩ (LStep.of hw fun S1 hA hr1 _ b0 σ a w R => by
  have hh1 := (hr1 id (by simp)).trans hh
  have e1 : a.eval it = .pointer (some ⟨b, 0, none⟩) := (opd_rep R ((hA.op it (by simp [Op.operands])).trans hx)).2
  obtain ⟨hσ, e3⟩ := at_it R.hp hh1
  have hlt := Nat.blt_eq.mp hp
  have hrun : (execOp a.eval { dst, op := .next it true, type := ty, pos, after, guard }).run P w = .ok (.value (.tuple #[.bool true, .int .i64 n, .int .i32 c])) (setBlock w b (.stringIter s (n + wd))) := by
   simp [execOp, e1, Instr.next, getObj, setObj, Sem.run, e3, Result.andThen, hlt, hu, setBlock, goInt]
  rw [hrun]
  have hobj : (setBlock w b (.stringIter s (n + wd))).heap[b]? = some (.stringIter s (n + wd)) := by
   have := (Array.getElem?_eq_some_iff.1 e3).1
   simp [setBlock, this]
  have hoth : ∀ i, i ≠ b → (setBlock w b (.stringIter s (n + wd))).heap[i]? = w.heap[i]? := fun i hi => by
   simp only [setBlock]
   rw [Array.getElem?_setIfInBounds_ne (Ne.symm hi)]
  have hbo : own σ S1.h b := ⟨id, _, by rw [hh1]; simp, hσ, rfl⟩
  have hK' : Keep (own σ S1.h) w (setBlock w b (.stringIter s (n + wd))) := ⟨rfl, rfl, rfl, by simp [setBlock], fun i _ ho => hoth i fun e => ho (e ▸ hbo)⟩
  obtain ⟨H, _, hO⟩ := R.hp.put (id := id) (B' := itB bt b s (n + wd)) (v' := .map (some b)) (σ' := σ) (h' := look [(id, some (itB bt b s (n + wd)))] S1.h) (w' := setBlock w b (.stringIter s (n + wd)))
   (fun _ _ h => h) (put_same _ _ _) hσ (fun i hi => .inr (put_ne _ _ hi)) hK'
   (fun i u hi => by
     by_cases h1 : i = id
     ·subst h1; rw [look_one, put_same]; simp
     ·rw [look_one, put_ne _ _ h1]; exact (R.hp.fx i u hi).2) (fun _ _ => rfl)
   (fun i u c hi h1 h2 h3 => hoth c fun e => by
     subst e
     have h1' : S1.h i ≠ none := by rw [look_one, put_ne _ _ hi] at h1; exact h1
     exact hi (R.hp.inj i id u _ c h1' (by rw [hh1]; simp) h2 hσ h3 rfl))
   (.inr <| .inr ⟨rfl, rfl, rfl, b, _, rfl, hobj, rfl, .inr ⟨_, rfl, rfl, rfl⟩⟩)
   (fun c hc => by
     cases hc
     exact ⟨R.hp.new b hbo, .inl hbo, fun i u hi h1 h2 h3 => by
      have h1' : S1.h i ≠ none := by rw [look_one, put_ne _ _ hi] at h1; exact h1
      exact hi (R.hp.inj i id u _ b h1' (by rw [hh1]; simp) h2 hσ h3 rfl)⟩)
  exact ⟨σ, R.step (e := ⟨.tu [.c (.p (.bool true)), .c (.p (.int .i64 n)), .c (.p (.int .i32 c))], [(id, some (itB bt b s (n + wd)))], []⟩) (by rw [hA.n]; exact hd) (fun _ _ h => h) hK' H hO (fun _ => ⟨_, rfl, ⟨rfl, rfl⟩, ⟨rfl, rfl⟩, ⟨rfl, rfl⟩, trivial⟩) fun i h => .inl h⟩) hn
theorem HeapOk.it {S : St} {ren : List (Nat × Option Nat)} {id o n : Nat} {ty : TypeId} {b m : Nat} {s : ByteArray} (hr : assoc ren id = some (some o)) (hh : S.h o = some (itB ty b s n)) (hm : m = n) : HeapOk S ren id (itB ty b s m) :=
 .inr ⟨o, 1, itF b s n, .inl hr, rfl, hh, fun _ _ _ _ => by subst hm; exact LeC.refl _ rfl⟩
end ops
end
end Go.AV
end
section
namespace Go.Proofs.Ytekkldgmjdllbaa
open Go.RowKit Go.Flow Go.AV Go.Plain
def rwD5 (s : ByteArray) (k : Nat) : Bool := decide (((s.get! k).toNat : Int) = 35)
def rwB5 (s : ByteArray) : Bp := ⟨s.size, 1, s.size, rwD5 s⟩
def Ascii5 (s : ByteArray) : Prop := s.size ≤ 96 ∧ ∀ k, k < s.size → (s.get! k).toNat < 128
theorem get_ba5 {s : ByteArray} {k : Nat} (h : k < s.size) : s[k]? = some (s.get! k) := by
 obtain ⟨a⟩ := s
 have h' : k < a.size := h
 show (if h : k < a.size then some a[k] else none) = some (a[k]!)
 rw [dif_pos h', getElem!_pos a k h']
theorem dec_ascii5 {s : ByteArray} {k : Nat} (h : (s.get! k).toNat < 128) : Utf8.decode s k = ((s.get! k).toNat, 1) := by
 unfold Utf8.decode
 simp only [Nat.add_zero]
 rw [if_pos h]
set_option maxHeartbeats 1000000 in
set_option maxRecDepth 100000 in
theorem row25_A (s : ByteArray) (hs : Ascii5 s) : ACalls Try.prog 34 [.c (.p (.string s))] (.ag (bpC (rwB5 s))) := by
 obtain ⟨h96, h128⟩ := hs
 refine acalls_at Try.func34 rfl rfl Try.ntmps34 rfl ?_
 repeat (first
  | refine uA ?_
  | (refine rG 0 ?_
     refine qr5 (aM tyOk) ?_
     refine aB ?_)
  | (refine rG 1 ?_
     refine kA ?_
     refine AList.lenStr (s.size) (by first | rfl | assumption) Try.underlying9 rfl rfl rfl ?_
     refine qr8 (aX tyOk) ?_
     refine qr5 (aM tyOk) ?_
     refine kI ?_
     refine aB ?_))
 refine AWp.text ?_
 refine AText.split 1 ?_
 refine kA ?_
 refine aB ?_
 refine AText.rangeStr rfl rfl rfl rfl Try.underlying9 fun b => ?_
 refine AText.all ?_
 refine aB ?_
 repeat (first
  | refine uB ?_
  | refine uC ?_)
 refine AWp.round (fun i : Nat =>
  mkSt 23 [(0, .c (.p (.string s))), (2, .c (.pt 2 3 0 0)), (3, .c (.pt 3 3 0 0)), (9, .c (itP b))] [(2, ⟨false, 1, 3, 31, lF [iC 0, iC 0, (.p (.slice none 0 0))]⟩), (3, ⟨false, 1, 3, 31, lF [iC s.size, iC 1, .ow 30]⟩), (9, itB 9 b s (i)), (30, rowBl (i) (rwD5 s))] [2, 3, 9, 30]
  ) (fun i => i ≤ s.size) (fun i => s.size - i) 0 (Nat.zero_le _) ?_ (fun i hi => ?_)
 ·refine Wk.mk [(2, some 2), (3, some 3), (9, some 9), (30, none)] rfl rfl rfl ?_ ?_
  ·exact allT
  ·exact ⟨hSm, HeapOk.box rfl rfl ⟨LeC.int rfl, LeC.int rfl, LeC.nil _ rfl, trivial⟩ rfl, HeapOk.it rfl rfl rfl, HeapOk.nil rfl rfl, trivial⟩
 by_cases hil : i < s.size
 ·have hb := get_ba5 hil
  have hdec := dec_ascii5 (h128 i hil)
  have hbl : Nat.blt i s.size = true := Nat.blt_eq.mpr hil
  obtain ⟨c, hc⟩ : ∃ c : Int, ((s.get! i).toNat : Int) = c := ⟨_, rfl⟩
  have hd : rwD5 s i = decide (c = 35) := by unfold rwD5; rw [hc]
  repeat (first
   | refine uA ?_
   | refine uB ?_
   | refine uC ?_
   | refine uG ?_
   | refine kT ?_
   | (refine rG 3 ?_
      refine AList.nextStr (id := 9) (c := (s.get! i).toNat) (wd := 1) rfl rfl rfl rfl (hbl) (hdec) ?_
      refine qr4 aN ?_
      refine aB ?_)
   | (refine rG 4 ?_
      refine qr4 aN ?_
      refine kC ?_
      refine aB ?_))
  by_cases h35 : c = 35
  ·rw [decide_eq_true h35] at hd
   repeat (first
    | refine uB ?_
    | refine uD ?_
    | (refine AWp.draw (id := 5) mixed ?_; refine kD ?_; refine kE ?_; (iterate 2 refine kA ?_); refine AList.idxStr (i) _ (c) (hb) (hc) Try.underlying9 rfl rfl rfl rfl ?_; refine qr5t aK ?_; refine qr11 (AList.litSl tyOk) ?_; refine AList.appL tyOk rfl rfl rfl rfl rfl rfl rfl rfl rfl rfl oM oM ?_; refine kD ?_; refine kI ?_; refine aB ⟨by kernel_rfl, ?_⟩))
   refine ⟨i + 1, hil, Wk.mk [(2, some 2), (3, some 3), (9, some 9), (30, some 20)] rfl rfl rfl ?_ ?_, by omega⟩
   ·exact allT
   ·exact ⟨hSm, HeapOk.box rfl rfl ⟨LeC.int rfl, LeC.int rfl, LeC.ow _ _ rfl, trivial⟩ rfl, HeapOk.it rfl rfl rfl, HeapOk.row rfl rfl rfl (app_F (fun _ _ => cell1 rfl) (cell1 (by show bC true = bC _; rw [hd])) (fun _ _ => cell1 rfl)), trivial⟩
  ·rw [decide_eq_false h35] at hd
   repeat (first
    | refine uB ?_
    | refine uD ?_
    | (refine AWp.draw (id := 5) mixed ?_; refine kD ?_; refine kE ?_; (iterate 2 refine kA ?_); refine AList.idxStr (i) _ (c) (hb) (hc) Try.underlying9 rfl rfl rfl rfl ?_; refine qr5f aJ ?_; refine qr11 (AList.litSl tyOk) ?_; refine AList.appL tyOk rfl rfl rfl rfl rfl rfl rfl rfl rfl rfl oM oM ?_; refine kD ?_; refine kI ?_; refine aB ⟨by kernel_rfl, ?_⟩))
   refine ⟨i + 1, hil, Wk.mk [(2, some 2), (3, some 3), (9, some 9), (30, some 20)] rfl rfl rfl ?_ ?_, by omega⟩
   ·exact allT
   ·exact ⟨hSm, HeapOk.box rfl rfl ⟨LeC.int rfl, LeC.int rfl, LeC.ow _ _ rfl, trivial⟩ rfl, HeapOk.it rfl rfl rfl, HeapOk.row rfl rfl rfl (app_F (fun _ _ => cell1 rfl) (cell1 (by show bC false = bC _; rw [hd])) (fun _ _ => cell1 rfl)), trivial⟩
 ·obtain rfl : i = s.size := by omega
  have hend : Nat.ble s.size s.size = true := Nat.ble_eq.mpr (Nat.le_refl _)
  repeat (first
   | refine uA ?_
   | refine uB ?_
   | refine uH ?_
   | refine AWp.ret ?_
   | refine kU ?_
   | (refine rG 3 ?_
      refine AList.nextEnd (id := 9) rfl rfl rfl rfl (hend) ?_
      refine qr4 aN ?_
      refine aB ?_)
   | (refine rG 6 ?_
      refine kF ?_
      refine kI ?_
      refine aB ?_))
  refine ⟨mkSt 23 [(2, .c (.pt 2 3 0 0))] [(2, ⟨false, 1, 3, 31, lF (bpC (rwB5 s))⟩)] [2], [(2, ⟨false, 1, 3, 31, lF (bpC (rwB5 s))⟩)], Wk.mk [(2, some 2)] rfl rfl rfl ?_ ?_, rfl, rfl, ARets.one (x := .ag _) (ARes.box tyOk rfl rfl rfl rfl rfl rfl rfl)⟩
  ·exact allT
  ·exact ⟨HeapOk.box rfl rfl ⟨LeC.int rfl, LeC.int rfl, LeC.fz rfl rfl rfl (fun i _ => cell1 ⟨rfl, rfl⟩), trivial⟩ rfl, trivial⟩
theorem PrR.ok {p : List Wt} (h : PrR p) : PrOk p := ⟨h.1, fun k hk => ⟨(h.2 k hk).1.1, (h.2 k hk).2.1⟩⟩
structure Ca5 where
 nA : Nat
 fA : Nat → Int
 nB : Nat
 fB : Nat → Int
 nX : Nat
 fX : Nat → Int
 nY : Nat
 fY : Nat → Int
abbrev ca5C (c : Ca5) : List CV := [.ls c.nA 1 (iF c.fA), .ls c.nB 1 (iF c.fB), .ls c.nX 1 (iF c.fX), .ls c.nY 1 (iF c.fY)]
def Ca5.ok (c : Ca5) : Prop := c.nA ≤ 4611686018427387904 ∧ c.nB ≤ 4611686018427387904 ∧ c.nX ≤ 4611686018427387904 ∧ c.nY ≤ 4611686018427387904
def pcA (c : Ca5) : Bp := mdV c.nA c.fA
def pcB (c : Ca5) : Bp := crV c.nB c.fB (mdW c.nA c.fA) (mdH c.nA c.fA)
def pcX (c : Ca5) : Bg := bgN c.nX c.fX
def pcY (c : Ca5) : Bg := bgN c.nY c.fY
set_option maxRecDepth 100000 in
theorem Pair25_A (c : Ca5) (hc : c.ok) : ACalls Try.prog 36 [.c (.ls c.nA 1 (iF c.fA)), .c (.ls c.nB 1 (iF c.fB))] (.tu [.ag (bpC (pcA c)), .ag (bpC (pcB c))]) := by
 obtain ⟨h1, h2, -⟩ := hc
 have hb := md_bd c.nA c.fA
 have m1 : ACalls Try.prog 92 [.c (.ls c.nA 1 (iF c.fA))] (.ag (bpC (pcA c))) := Made_A c.nA c.fA h1
 have m2 := Made_A c.nB c.fB h2
 have c1 : ACalls Try.prog 93 [.ag (bpC (mdV c.nB c.fB)), .c (iC 0), .c (iC 0), .c (iC (pcA c).W), .c (iC (pcA c).H)] (.tu [.ag (bpC (pcB c)), .c (iC 0)]) := CrV_A c.nB c.fB _ _ (by omega) (by omega)
 refine acalls_at Try.func36 rfl rfl Try.ntmps36 rfl ?_
 generalize pcA c = a at *
 generalize pcB c = b at *
 generalize mdV c.nB c.fB = v at *
 repeat (first
  | refine uA ?_
  | refine uB ?_
  | refine AWp.ret ?_
  | (refine rG 0 ?_
     (iterate 2 refine qr5 (aM tyOk) ?_)
     refine aB ?_)
  | (refine rG 1 ?_
     refine kA ?_
     refine aH rfl rfl rfl rfl Try.func92 rfl (by kernel_rfl) (m1) ?_
     refine qr5 (aM tyOk) ?_
     refine kI ?_
     refine aB ?_)
  | (refine AWp.draw (id := 2) mixed ?_; refine kA ?_; refine aH rfl rfl rfl rfl Try.func92 rfl (by kernel_rfl) (m2) ?_; refine kD ?_; refine kE ?_; refine kD ?_; refine kE ?_; refine aH rfl rfl rfl rfl Try.func93 rfl (by kernel_rfl) (c1) ?_; refine kA ?_; (iterate 2 refine qr4 aN ?_); refine qr5 (aM tyOk) ?_; refine kI ?_; refine kC ?_; refine aB ⟨by kernel_rfl, ?_⟩)
  | (refine AWp.draw (id := 3) mixed ?_; (iterate 2 refine kF ?_); (iterate 2 refine kI ?_); refine aB ⟨by kernel_rfl, ?_⟩))
 refine ⟨mkSt 23 [(4, .c (.pt 4 3 0 0)), (5, .c (.pt 5 3 0 0))] [(4, ⟨false, 1, 3, 31, lF (bpC a)⟩), (5, ⟨false, 1, 3, 31, lF (bpC b)⟩)] [4, 5], [(4, ⟨false, 1, 3, 31, lF (bpC a)⟩), (5, ⟨false, 1, 3, 31, lF (bpC b)⟩)], Wk.mk [(4, some 4), (5, some 5)] rfl rfl rfl ?_ ?_, rfl, rfl, ARets.two (x := .ag _) (y := .ag _) (ARes.box tyOk rfl rfl rfl rfl rfl rfl rfl) (ARes.box tyOk rfl rfl rfl rfl rfl rfl rfl)⟩
 ·exact allT
 ·exact allH
set_option maxRecDepth 100000 in
theorem made25_A (c : Ca5) (hc : c.ok) : ACalls Try.prog 10 [.ag (ca5C c)] (.tu [.ag (bpC (pcA c)), .ag (bpC (pcB c)), .ag (bgC (pcX c)), .ag (bgC (pcY c))]) := by
 have hP := Pair25_A c hc
 obtain ⟨h1, h2, h3, h4⟩ := hc
 have b1 : ACalls Try.prog 37 [.c (.ls c.nX 1 (iF c.fX))] (.ag (bgC (pcX c))) := Budget_A c.nX c.fX h3
 have b2 : ACalls Try.prog 37 [.c (.ls c.nY 1 (iF c.fY))] (.ag (bgC (pcY c))) := Budget_A c.nY c.fY h4
 refine acalls_at Try.func10 rfl rfl Try.ntmps10 rfl ?_
 generalize pcA c = a at *
 generalize pcB c = b at *
 generalize pcX c = x at *
 generalize pcY c = y at *
 repeat (first
  | refine uA ?_
  | refine uB ?_
  | refine AWp.ret ?_
  | (refine rG 0 ?_
     refine qr5 aQ ?_
     (iterate 4 refine qr5 (aM tyOk) ?_)
     refine aB ?_)
  | (refine rG 1 ?_
     refine kD ?_
     refine kE ?_
     refine kD ?_
     refine kE ?_
     refine aH rfl rfl rfl rfl Try.func36 rfl (by kernel_rfl) (hP) ?_
     refine kA ?_
     (iterate 2 refine qr4 aN ?_)
     (iterate 2 refine qr5 (aM tyOk) ?_)
     (iterate 2 refine kI ?_)
     refine aB ?_)
  | (refine AWp.draw (id := 2) mixed ?_; (iterate 2 refine kF ?_); refine kD ?_; refine kE ?_; refine aH rfl rfl rfl rfl Try.func37 rfl (by kernel_rfl) (b1) ?_; refine kD ?_; refine kE ?_; refine aH rfl rfl rfl rfl Try.func37 rfl (by kernel_rfl) (b2) ?_; (iterate 4 refine kI ?_); refine aB ⟨by kernel_rfl, ?_⟩))
 refine ⟨mkSt 24 [(2, .c (.pt 2 3 0 0)), (3, .c (.pt 3 3 0 0)), (4, .c (.pt 4 4 0 0)), (5, .c (.pt 5 4 0 0))] [(2, ⟨false, 1, 3, 31, lF (bpC a)⟩), (3, ⟨false, 1, 3, 31, lF (bpC b)⟩), (4, ⟨false, 1, 4, 33, lF (bgC x)⟩), (5, ⟨false, 1, 4, 33, lF (bgC y)⟩)] [2, 3, 4, 5], [(2, ⟨false, 1, 3, 31, lF (bpC a)⟩), (3, ⟨false, 1, 3, 31, lF (bpC b)⟩), (4, ⟨false, 1, 4, 33, lF (bgC x)⟩), (5, ⟨false, 1, 4, 33, lF (bgC y)⟩)], Wk.mk [(2, some 2), (3, some 3), (4, some 4), (5, some 5)] rfl rfl rfl ?_ ?_, rfl, rfl, ARets.four (x := .ag _) (y := .ag _) (z := .ag _) (u := .ag _) (ARes.box tyOk rfl rfl rfl rfl rfl rfl rfl) (ARes.box tyOk rfl rfl rfl rfl rfl rfl rfl) (ARes.box tyOk rfl rfl rfl rfl rfl rfl rfl) (ARes.box tyOk rfl rfl rfl rfl rfl rfl rfl)⟩
 ·exact allT
 ·exact allH
def nnF (c0 c1 : CV) (_ j : Nat) : CV := if j = 0 then c0 else c1
abbrev nnB (c0 c1 : CV) (n : Nat) : AB := ⟨true, n, 2, 62, nnF c0 c1⟩
theorem nn_imm {c0 c1 : CV} (h0 : immC c0 = true) (h1 : immC c1 = true) (k j : Nat) : immC (nnF c0 c1 k j) = true := by
 unfold nnF
 split
 ·exact h0
 ·exact h1
theorem nn_app {c0 c1 : CV} (h0 : immC c0 = true) (h1 : immC c1 = true) (n : Nat) : ∀ i, i < n + 1 → ∀ j, j < 2 → appF (nnF c0 c1) n (sF [c0, c1] 2) i j = nnF c0 c1 i j ∧ immC (appF (nnF c0 c1) n (sF [c0, c1] 2) i j) = true :=
 app_F (G := nnF c0 c1) (fun _ _ _ _ => rfl) (fun j hj => by
  match j, hj with
  | 0, _ => rfl
  | 1, _ => rfl) (fun i _ j _ => nn_imm h0 h1 i j)
set_option maxRecDepth 100000 in
theorem nineC1_M (n m : Nat) (F G : Nat → Nat → CV) : GMCalls Try.prog 35 [.ag [(.ls n 1 F), (.ls m 1 G)]] [] [] (.c (.ow 900)) [] [nnB (.ls n 1 F) (.ls m 1 G) 9] := by
 refine gm_at Try.func35 rfl rfl Try.ntmps35 rfl ?_
 repeat (first
  | refine uA ?_
  | refine uB ?_
  | refine uC ?_
  | refine uG ?_
  | refine uH ?_
  | refine AWp.ret ?_
  | refine thenA_e ?_
  | refine thenA_r ?_
  | refine uD ?_
  | refine uE ?_
  | refine uF ?_
  | refine inBlk_miss rfl ?_
  | refine kT ?_
  | refine kU ?_
  | refine AWp.scope (fun _ _ h => h) ?_
  | refine AWp.label ?_
  | (refine rG 0 ?_
     refine qr5 aQ ?_
     refine kC ?_
     refine aB ?_)
  | (refine rG 1 ?_
     refine kC ?_
     refine aB ?_)
  | (refine rG 2 ?_
     refine kC ?_
     refine aB ?_))
 refine AWp.round (fun i : Nat => mkSt 14 [(1, .c (.pt 1 2 0 0)), (3, .c (.ow 30)), (4, .c (iC i))] [(1, ⟨false, 1, 2, 62, lF [(.ls n 1 F), (.ls m 1 G)]⟩), (30, nnB (.ls n 1 F) (.ls m 1 G) i)] [1, 30])
  (fun i => i ≤ 9) (fun i => 9 - i) 0 (Nat.zero_le _) ?_ (fun i hi => ?_)
 ·refine Wk.mk [(1, some 1), (30, none)] rfl rfl rfl ?_ ?_
  ·exact allT
  ·exact ⟨hSm, HeapOk.nil rfl rfl, trivial⟩
 by_cases h9 : i < 9
 · -- ax 2 law25.nine
   repeat (first
    | refine uA ?_
    | refine uB ?_
    | refine uC ?_
    | refine uG ?_
    | refine uH ?_
    | refine AWp.ret ?_
    | refine thenA_e ?_
    | refine thenA_r ?_
    | refine uD ?_
    | refine uE ?_
    | refine uF ?_
    | refine inBlk_miss rfl ?_
    | refine kT ?_
    | refine kU ?_
    | refine AWp.scope (fun _ _ h => h) ?_
    | refine AWp.label ?_
    | (refine rG 3 ?_
       refine kA ?_
       first | refine qr5t aK ?_ | refine qr5f aJ ?_ | refine qr5 aW ?_
       refine aB ?_)
    | (refine rG 4 ?_
       refine kA ?_
       refine qr4w2 aL ?_
       refine kC ?_
       refine aB ?_)
    | (refine rG 5 ?_
       refine kA ?_
       first | refine kF ?_ | refine qr5o (aT tyOk) ?_
       refine qr11 (AList.litSl tyOk) ?_
       first | refine AList.appL0 tyOk rfl rfl rfl rfl rfl rfl rfl rfl rfl rfl oM oM ?_ | refine AList.appL tyOk rfl rfl rfl rfl rfl rfl rfl rfl rfl rfl oM oM ?_ | refine AList.appN tyOk rfl rfl rfl rfl rfl rfl rfl rfl rfl oM oM ?_ | refine AList.appO tyOk rfl rfl rfl rfl rfl rfl rfl rfl rfl rfl rfl oM oM ?_ | refine AList.appE tyOk rfl rfl rfl rfl rfl rfl rfl rfl rfl rfl oM oM ?_
       refine kC ?_
       refine aB ?_))
   refine ⟨i + 1, h9, Wk.mk [(1, some 1), (30, some 12)] rfl rfl rfl ?_ ?_, by omega⟩
   ·exact allT
   ·exact ⟨hSm, HeapOk.row rfl rfl rfl (nn_app rfl rfl i), trivial⟩
 ·obtain rfl : i = 9 := by omega
  repeat (first
   | refine uA ?_
   | refine uB ?_
   | refine uC ?_
   | refine uG ?_
   | refine uH ?_
   | refine AWp.ret ?_
   | refine thenA_e ?_
   | refine thenA_r ?_
   | refine uD ?_
   | refine uE ?_
   | refine uF ?_
   | refine inBlk_miss rfl ?_
   | refine kT ?_
   | refine kU ?_
   | refine AWp.scope (fun _ _ h => h) ?_
   | refine AWp.label ?_
   | (refine rG 3 ?_
      refine kA ?_
      first | refine qr5t aK ?_ | refine qr5f aJ ?_ | refine qr5 aW ?_
      refine aB ?_)
   | (refine rG 6 ?_
      refine kA ?_
      refine kC ?_
      refine aB ?_))
  refine ⟨mkSt 14 [(2, .c (.ow 900))] [(900, nnB (.ls n 1 F) (.ls m 1 G) 9)] [900], [], _, [], [nnB (.ls n 1 F) (.ls m 1 G) 9], ⟨rfl, rfl, rfl⟩, rfl, Wk.mk [(900, some 30)] rfl rfl rfl ?_ ?_, rfl, rfl, GRets.one (x := .c _) (GRes.tmp rfl)⟩
  ·exact allT
  ·exact ⟨HeapOk.row rfl rfl rfl (fun i _ j _ => ⟨rfl, nn_imm rfl rfl i j⟩), trivial⟩
set_option maxRecDepth 100000 in
theorem nineC2_M (v : Value) (m : Nat) (G : Nat → Nat → CV) : GMCalls Try.prog 35 [.ag [(.p v), (.ls m 1 G)]] [] [] (.c (.ow 900)) [] [nnB (.p v) (.ls m 1 G) 9] := by
 refine gm_at Try.func35 rfl rfl Try.ntmps35 rfl ?_
 repeat (first
  | refine uA ?_
  | refine uB ?_
  | refine uC ?_
  | refine uG ?_
  | refine uH ?_
  | refine AWp.ret ?_
  | refine thenA_e ?_
  | refine thenA_r ?_
  | refine uD ?_
  | refine uE ?_
  | refine uF ?_
  | refine inBlk_miss rfl ?_
  | refine kT ?_
  | refine kU ?_
  | refine AWp.scope (fun _ _ h => h) ?_
  | refine AWp.label ?_
  | (refine rG 0 ?_
     refine qr5 aQ ?_
     refine kC ?_
     refine aB ?_)
  | (refine rG 1 ?_
     refine kC ?_
     refine aB ?_)
  | (refine rG 2 ?_
     refine kC ?_
     refine aB ?_))
 refine AWp.round (fun i : Nat => mkSt 14 [(1, .c (.pt 1 2 0 0)), (3, .c (.ow 30)), (4, .c (iC i))] [(1, ⟨false, 1, 2, 62, lF [(.p v), (.ls m 1 G)]⟩), (30, nnB (.p v) (.ls m 1 G) i)] [1, 30])
  (fun i => i ≤ 9) (fun i => 9 - i) 0 (Nat.zero_le _) ?_ (fun i hi => ?_)
 ·refine Wk.mk [(1, some 1), (30, none)] rfl rfl rfl ?_ ?_
  ·exact allT
  ·exact ⟨hSm, HeapOk.nil rfl rfl, trivial⟩
 by_cases h9 : i < 9
 · -- ax 5 law25.nine
   repeat (first
    | refine uA ?_
    | refine uB ?_
    | refine uC ?_
    | refine uG ?_
    | refine uH ?_
    | refine AWp.ret ?_
    | refine thenA_e ?_
    | refine thenA_r ?_
    | refine uD ?_
    | refine uE ?_
    | refine uF ?_
    | refine inBlk_miss rfl ?_
    | refine kT ?_
    | refine kU ?_
    | refine AWp.scope (fun _ _ h => h) ?_
    | refine AWp.label ?_
    | (refine rG 3 ?_
       refine kA ?_
       first | refine qr5t aK ?_ | refine qr5f aJ ?_ | refine qr5 aW ?_
       refine aB ?_)
    | (refine rG 4 ?_
       refine kA ?_
       refine qr4w2 aL ?_
       refine kC ?_
       refine aB ?_)
    | (refine rG 5 ?_
       refine kA ?_
       first | refine kF ?_ | refine qr5o (aT tyOk) ?_
       refine qr11 (AList.litSl tyOk) ?_
       first | refine AList.appL0 tyOk rfl rfl rfl rfl rfl rfl rfl rfl rfl rfl oM oM ?_ | refine AList.appL tyOk rfl rfl rfl rfl rfl rfl rfl rfl rfl rfl oM oM ?_ | refine AList.appN tyOk rfl rfl rfl rfl rfl rfl rfl rfl rfl oM oM ?_ | refine AList.appO tyOk rfl rfl rfl rfl rfl rfl rfl rfl rfl rfl rfl oM oM ?_ | refine AList.appE tyOk rfl rfl rfl rfl rfl rfl rfl rfl rfl rfl oM oM ?_
       refine kC ?_
       refine aB ?_))
   refine ⟨i + 1, h9, Wk.mk [(1, some 1), (30, some 12)] rfl rfl rfl ?_ ?_, by omega⟩
   ·exact allT
   ·exact ⟨hSm, HeapOk.row rfl rfl rfl (nn_app rfl rfl i), trivial⟩
 ·obtain rfl : i = 9 := by omega
  repeat (first
   | refine uA ?_
   | refine uB ?_
   | refine uC ?_
   | refine uG ?_
   | refine uH ?_
   | refine AWp.ret ?_
   | refine thenA_e ?_
   | refine thenA_r ?_
   | refine uD ?_
   | refine uE ?_
   | refine uF ?_
   | refine inBlk_miss rfl ?_
   | refine kT ?_
   | refine kU ?_
   | refine AWp.scope (fun _ _ h => h) ?_
   | refine AWp.label ?_
   | (refine rG 3 ?_
      refine kA ?_
      first | refine qr5t aK ?_ | refine qr5f aJ ?_ | refine qr5 aW ?_
      refine aB ?_)
   | (refine rG 6 ?_
      refine kA ?_
      refine kC ?_
      refine aB ?_))
  refine ⟨mkSt 14 [(2, .c (.ow 900))] [(900, nnB (.p v) (.ls m 1 G) 9)] [900], [], _, [], [nnB (.p v) (.ls m 1 G) 9], ⟨rfl, rfl, rfl⟩, rfl, Wk.mk [(900, some 30)] rfl rfl rfl ?_ ?_, rfl, rfl, GRets.one (x := .c _) (GRes.tmp rfl)⟩
  ·exact allT
  ·exact ⟨HeapOk.row rfl rfl rfl (fun i _ j _ => ⟨rfl, nn_imm rfl rfl i j⟩), trivial⟩
theorem nn_cv {c0 c1 : CV} {w : Wt} (h0 : Cv c0 (liV w.1)) (h1 : Cv c1 (liV w.2)) : ∀ k, k < 9 → ∀ j, j < 2 → Cv (nnF c0 c1 k j) (rowF wtC wtZ (List.replicate 9 w) k j) := fun k hk j hj => by
 have e : (List.replicate 9 w).getD k wtZ = w := by
  rw [List.getD_eq_getElem?_getD, List.getElem?_replicate, if_pos hk]
  rfl
 unfold rowF
 rw [e]
 match j, hj with
 | 0, _ => exact h0
 | 1, _ => exact h1
theorem nn_cv0 {c0 c1 d0 d1 : CV} {w v : Wt} (h0 : Cv c0 (liV w.1)) (h1 : Cv c1 (liV w.2)) (g0 : Cv d0 (liV v.1)) (g1 : Cv d1 (liV v.2)) : ∀ k, k < 9 → ∀ j, j < 2 → Cv (setF (nnF c0 c1) 0 0 2 [d0, d1] k j) (rowF wtC wtZ (v :: List.replicate 8 w) k j) := fun k hk j hj => by
 match k, hk, j, hj with
 | 0, _, 0, _ => exact g0
 | 0, _, 1, _ => exact g1
 | k + 1, hk, j, hj =>
   have e : (v :: List.replicate 8 w).getD (k + 1) wtZ = w := by
    rw [List.getD_eq_getElem?_getD, List.getElem?_cons_succ, List.getElem?_replicate, if_pos (by omega)]
    rfl
   have hs : setF (nnF c0 c1) 0 0 2 [d0, d1] (k + 1) j = nnF c0 c1 (k + 1) j := rfl
   unfold rowF
   rw [e, hs]
   match j, hj with
   | 0, _ => exact h0
   | 1, _ => exact h1
abbrev e5L : ByteArray := ⟨#[35, 35, 46, 46, 46]⟩
abbrev e5M : ByteArray := ⟨#[46, 46, 46, 35, 46]⟩
abbrev e5N : ByteArray := ⟨#[46, 46, 46, 46]⟩
theorem e5L_ok : Ascii5 e5L := ⟨by decide, by decide⟩
theorem e5M_ok : Ascii5 e5M := ⟨by decide, by decide⟩
theorem e5N_ok : Ascii5 e5N := ⟨by decide, by decide⟩
abbrev e5A : Bp := rwB5 e5L
abbrev e5B : Bp := rwB5 e5M
abbrev e5X : Bg := ⟨1, 0, 0, 0⟩
abbrev e5Y : Bg := ⟨0, 1, 1, 0⟩
abbrev e5W : List Wt := List.replicate 9 ([0, 1], [3])
abbrev e5S : List Wt := List.replicate 9 ([], [3])
abbrev e5H : List Wt := ([0, 1], []) :: List.replicate 8 ([], [3])
abbrev e5G : List Wt := ([], [4]) :: List.replicate 8 ([], [3])
theorem ex5_m : mkV e5A e5B e5X e5Y = (e5W, 0) := by decide +kernel
theorem ex5_s : shkV e5A e5B e5X e5Y e5W = (e5S, 0) := by decide +kernel
theorem ex5_c1 : chkV e5A e5B e5X e5Y e5W = 0 := by decide +kernel
theorem ex5_c2 : chkV e5A e5B e5X e5Y e5S = 0 := by decide +kernel
theorem ex5_c3 : chkV e5A e5B e5X e5Y (e5W.take 8) = 62 := by decide +kernel
theorem ex5_c4 : chkV e5A e5B e5X e5Y e5H = 62 := by decide +kernel
theorem ex5_c5 : chkV e5A e5B e5X e5Y e5G = 62 := by decide +kernel
theorem ex5_g : (mkV e5A e5B ⟨1, 1, 0, 0⟩ e5Y).2 = 60 := by decide +kernel
theorem ex5_h : (mkV e5A e5A e5X e5Y).2 = 60 := by decide +kernel
theorem ex5_i : (mkV e5A (rwB5 e5N) e5X e5Y).2 = 13 := by decide +kernel
theorem ex5_y : prY (e5W.take 1) = [2, 4, 0, 2, 2, 6] := by decide +kernel
theorem prR_of {p : List Wt} (h : (Nat.ble p.length 1000 && p.all fun w => Nat.ble w.1.length 1000 && (Nat.ble w.2.length 1000 && (w.1.all (fun v => decide (-1000 ≤ v ∧ v ≤ 1000)) && w.2.all (fun v => decide (-1000 ≤ v ∧ v ≤ 1000))))) = true) : PrR p := by
 rw [Bool.and_eq_true] at h
 have h1 := Nat.ble_eq.mp h.1
 refine ⟨by omega, fun k hk => ?_⟩
 have hm : p.getD k wtZ ∈ p := by rw [List.getD_eq_getElem?_getD, List.getElem?_eq_getElem hk]; exact List.getElem_mem _
 have h2 := List.all_eq_true.1 h.2 _ hm
 simp only [Bool.and_eq_true] at h2
 obtain ⟨a1, a2, a3, a4⟩ := h2
 have a1 := Nat.ble_eq.mp a1
 have a2 := Nat.ble_eq.mp a2
 have el : ∀ l : List Int, l.all (fun v => decide (-1000 ≤ v ∧ v ≤ 1000)) = true → ∀ k, k < l.length → iOk (l.getD k 0) := fun l hl k hk => by
  have hm : l.getD k 0 ∈ l := by rw [List.getD_eq_getElem?_getD, List.getElem?_eq_getElem hk]; exact List.getElem_mem _
  have := of_decide_eq_true (List.all_eq_true.1 hl _ hm)
  unfold iOk
  omega
 exact ⟨⟨by omega, el _ a3⟩, by omega, el _ a4⟩
theorem cv_refl : ∀ l : List CV, LeL Cv l l
 | [] => trivial
 | _ :: l => ⟨Cv.refl _, cv_refl l⟩
theorem nn_new {ids ni : List Nat} {c0 c1 : CV} {n : Nat} (h0 : immC c0 = true) (h1 : immC c1 = true) : BackB ids ni [nnB c0 c1 n] [nnB c0 c1 n] := ⟨⟨_, rfl, fun k _ j _ => .imm _ (nn_imm h0 h1 k j)⟩, trivial⟩
abbrev l01 : CV := .ls 2 1 (sF [iC 0, iC 1] 1)
abbrev l1 (v : Int) : CV := .ls 1 1 (sF [iC v] 1)
theorem cv01 : Cv l01 (liV [0, 1]) := Cv.lit fun k hk => by
 match k, hk with
 | 0, _ => rfl
 | 1, _ => rfl
theorem cv1 (v : Int) : Cv (l1 v) (liV [v]) := Cv.lit fun k hk => by
 obtain rfl : k = 0 := by omega
 rfl
theorem cvN : Cv (.p (.slice none 0 0)) (liV []) := Cv.nil
set_option maxHeartbeats 4000000 in
set_option maxRecDepth 100000 in
theorem sanity25_A : ACalls Try.prog 9 [] (.c (bC true)) := by
 have r1 : ACalls Try.prog 34 [.c (.p (.string e5L))] (.ag (bpC e5A)) := row25_A e5L e5L_ok
 have r2 : ACalls Try.prog 34 [.c (.p (.string e5M))] (.ag (bpC e5B)) := row25_A e5M e5M_ok
 have r3 : ACalls Try.prog 34 [.c (.p (.string e5N))] (.ag (bpC (rwB5 e5N))) := row25_A e5N e5N_ok
 have m1 := pMake_A e5A e5B e5X e5Y
 have m2 := pMake_A e5A e5B ⟨1, 1, 0, 0⟩ e5Y
 have m3 := pMake_A e5A e5A e5X e5Y
 have m4 := pMake_A e5A (rwB5 e5N) e5X e5Y
 rw [ex5_m] at m1
 rw [ex5_g] at m2
 rw [ex5_h] at m3
 rw [ex5_i] at m4
 have oW : PrR e5W := prR_of (by decide)
 have oS : PrR e5S := prR_of (by decide)
 have oH : PrR e5H := prR_of (by decide)
 have oG : PrR e5G := prR_of (by decide)
 have oT : PrR (e5W.take 8) := prR_of (by decide)
 have oU : PrR (e5W.take 1) := prR_of (by decide)
 have sh := pShrink_A e5A e5B e5X e5Y e5W oW.ok
 rw [ex5_s] at sh
 have k1 := pCheck_A e5A e5B e5X e5Y e5W oW.ok
 have k2 := pCheck_A e5A e5B e5X e5Y e5S oS.ok
 have k3 := pCheck_A e5A e5B e5X e5Y (e5W.take 8) oT.ok
 have k4 := pCheck_A e5A e5B e5X e5Y e5H oH.ok
 have k5 := pCheck_A e5A e5B e5X e5Y e5G oG.ok
 rw [ex5_c1] at k1
 rw [ex5_c2] at k2
 rw [ex5_c3] at k3
 rw [ex5_c4] at k4
 rw [ex5_c5] at k5
 have s1 := Same25_A e5W e5W oW oW
 have s2 := Same25_A e5S e5S oS oS
 rw [decide_eq_true rfl] at s1 s2
 have by1 := pBytes_A (e5W.take 1) oU
 rw [ex5_y] at by1
 have tk : ∀ n, n ≤ 9 → Cv (.ls (n - 0) 2 (fun k j => rowF wtC wtZ e5W (0 + k) j)) (wpC (e5W.take n)) := fun n hn σ O w u hu => by
  refine ⟨hu.1, ?_⟩
  have hl : (e5W.take n).length = n - 0 := by rw [List.length_take, List.length_replicate]; omega
  show RepI O w (.ls (e5W.take n).length 2 _) u
  rw [hl]
  refine RepI.ls_congr (fun k hk j hj => ?_) hu.2
  unfold rowF
  rw [Nat.zero_add, List.getD_eq_getElem?_getD (l := e5W.take n), List.getElem?_take_of_lt (by omega), ← List.getD_eq_getElem?_getD]
 have k3' := k3.cv (args' := [.ag (bpC e5A), .ag (bpC e5B), .ag (bgC e5X), .ag (bgC e5Y), .c (.ls (8 - 0) 2 (fun k j => rowF wtC wtZ e5W (0 + k) j))]) ⟨.ag (cv_refl _), .ag (cv_refl _), .ag (cv_refl _), .ag (cv_refl _), .c (tk 8 (by decide)), trivial⟩
 have by1' := by1.cv (args' := [.c (.ls (1 - 0) 2 (fun k j => rowF wtC wtZ e5W (0 + k) j))]) ⟨.c (tk 1 (by decide)), trivial⟩
 clear k3 by1 tk
 have n1 := nineC1_M 2 1 (sF [iC 0, iC 1] 1) (sF [iC 3] 1)
 have n2 := nineC2_M (.slice none 0 0) 1 (sF [iC 3] 1)
 generalize e5A = a at *
 generalize e5B = b at *
 generalize rwB5 e5N = c at *
 generalize (mkV a b ⟨1, 1, 0, 0⟩ e5Y).1 = q1 at *
 generalize (mkV a a e5X e5Y).1 = q2 at *
 generalize (mkV a c e5X e5Y).1 = q3 at *
 refine acalls_at Try.func9 rfl rfl Try.ntmps9 rfl ?_
 repeat (first
  | refine uA ?_
  | (refine rG 0 ?_
     refine kC ?_
     refine aB ?_)
  | (refine rG 1 ?_
     refine aH rfl rfl rfl rfl Try.func34 rfl (by kernel_rfl) (r1) ?_
     refine aH rfl rfl rfl rfl Try.func34 rfl (by kernel_rfl) (r2) ?_
     (iterate 2 refine qr5 (aM tyOk) ?_)
     (iterate 2 refine kI ?_)
     refine aB ?_)
  | (refine rG 2 ?_
     (iterate 2 refine qr8 (aX tyOk) ?_)
     (iterate 2 refine qr5 (aM tyOk) ?_)
     (iterate 2 refine kI ?_)
     refine aB ?_)
  | (refine rG 3 ?_
     (iterate 2 refine qr11 (AList.litSl tyOk) ?_)
     refine qr8 (aX tyOk) ?_
     refine AList.callM [] [] [61] [] [] [] [nnB l01 (l1 3) 9] [] [nnB l01 (l1 3) 9] rfl rfl FnV.func rfl Try.func35 rfl (by kernel_rfl) (trivial) (trivial) rfl (by exact ⟨.ag (lentAg rfl), trivial⟩) (.c (.owN 0 61 rfl)) (trivial) (nn_new rfl rfl) (n1) ?_
     refine kC ?_
     refine aB ?_)
  | (refine rG 4 ?_
     refine qr11 (AList.litSl tyOk) ?_
     refine qr8 (aX tyOk) ?_
     refine AList.callM [] [] [62] [] [] [] [nnB (.p (.slice none 0 0)) (l1 3) 9] [] [nnB (.p (.slice none 0 0)) (l1 3) 9] rfl rfl FnV.func rfl Try.func35 rfl (by kernel_rfl) (trivial) (trivial) rfl (by exact ⟨.ag (lentAg rfl), trivial⟩) (.c (.owN 0 62 rfl)) (trivial) (nn_new rfl rfl) (n2) ?_
     refine kC ?_
     refine aB ?_))
 refine AWp.cvBox (id := 61) (rowF wtC wtZ e5W) rfl rfl (nn_cv cv01 (cv1 3)) ?_
 refine AWp.cvBox (id := 62) (rowF wtC wtZ e5S) rfl rfl (nn_cv cvN (cv1 3)) ?_
 refine AWp.weak (S' := mkSt 169 [(1, .c (.pt 1 3 0 0)), (2, .c (.pt 2 3 0 0)), (3, .c (.pt 3 4 0 0)), (4, .c (.pt 4 4 0 0)), (5, .c (wpC e5W)), (6, .c (wpC e5S))] 
  [(1, ⟨false, 1, 3, 31, lF (bpC a)⟩), (2, ⟨false, 1, 3, 31, lF (bpC b)⟩), (3, ⟨false, 1, 4, 33, lF (bgC e5X)⟩), (4, ⟨false, 1, 4, 33, lF (bgC e5Y)⟩)
  ] [1, 2, 3, 4]) (Wk.mk [(1, some 1), (2, some 2), (3, some 3), (4, some 4)] rfl rfl rfl ?_ ?_) ?_
 ·exact ⟨⟨_, rfl, .c (LeC.pt _ _ _ _ _ rfl)⟩, ⟨_, rfl, .c (LeC.pt _ _ _ _ _ rfl)⟩, ⟨_, rfl, .c (LeC.pt _ _ _ _ _ rfl)⟩, ⟨_, rfl, .c (LeC.pt _ _ _ _ _ rfl)⟩, ⟨_, rfl, .c (LeC.fz rfl rfl rfl (fun i _ j _ => ⟨rfl, rowF_imm wtC_imm _ i j⟩))⟩, ⟨_, rfl, .c (LeC.fz rfl rfl rfl (fun i _ j _ => ⟨rfl, rowF_imm wtC_imm _ i j⟩))⟩, trivial⟩
 ·exact allH
 repeat (first
  | refine uA ?_
  | refine uB ?_
  | refine uG ?_
  | refine kU ?_
  | (refine rG 5 ?_
     (iterate 4 refine kF ?_)
     refine aH rfl rfl rfl rfl Try.func20 rfl (by kernel_rfl) (m1) ?_
     refine kA ?_
     (iterate 2 refine qr4 aN ?_)
     (iterate 2 refine kC ?_)
     refine aB ?_)
  | (refine rG 6 ?_
     (iterate 4 refine kF ?_)
     refine kA ?_
     refine aH rfl rfl rfl rfl Try.func16 rfl (by kernel_rfl) (sh) ?_
     refine kA ?_
     (iterate 2 refine qr4 aN ?_)
     (iterate 2 refine kC ?_)
     refine aB ?_)
  | (refine rG 7 ?_
     refine kA ?_
     refine aJ rfl rfl rfl rfl rfl (by simp only [cmpP, eq_self, decide_true, Bool.not_true]) ?_
     (iterate 2 refine kA ?_)
     refine aJ rfl rfl rfl rfl rfl (by simp only [cmpP, eq_self, decide_true, Bool.not_true]) ?_
     refine qr4 aR ?_
     (iterate 3 refine kA ?_)
     refine aH rfl rfl rfl rfl Try.func18 rfl (by kernel_rfl) (s1) ?_
     refine qr3 AList.notB ?_
     refine qr4 aR ?_
     (iterate 3 refine kA ?_)
     refine aH rfl rfl rfl rfl Try.func18 rfl (by kernel_rfl) (s2) ?_
     refine qr3 AList.notB ?_
     refine qr4 aR ?_
     refine kA ?_
     (iterate 4 refine kF ?_)
     refine kA ?_
     refine aH rfl rfl rfl rfl Try.func14 rfl (by kernel_rfl) (k1) ?_
     refine aJ rfl rfl rfl rfl rfl (by simp only [cmpP, eq_self, decide_true, Bool.not_true]) ?_
     refine qr4 aR ?_
     refine kA ?_
     (iterate 4 refine kF ?_)
     refine kA ?_
     refine aH rfl rfl rfl rfl Try.func14 rfl (by kernel_rfl) (k2) ?_
     refine aJ rfl rfl rfl rfl rfl (by simp only [cmpP, eq_self, decide_true, Bool.not_true]) ?_
     refine qr4 aR ?_
     refine aB ?_)
  | (refine rG 9 ?_
     refine qr11 (AList.litSl tyOk) ?_
     refine qr8 (aX tyOk) ?_
     refine AList.callM [] [] [63] [] [] [] [nnB (.p (.slice none 0 0)) (l1 3) 9] [] [nnB (.p (.slice none 0 0)) (l1 3) 9] rfl rfl FnV.func rfl Try.func35 rfl (by kernel_rfl) (trivial) (trivial) rfl (by exact ⟨.ag (lentAg rfl), trivial⟩) (.c (.owN 0 63 rfl)) (trivial) (nn_new rfl rfl) (n2) ?_
     refine kC ?_
     refine aB ?_)
  | (refine rG 10 ?_
     refine kA ?_
     refine qr11 (AList.litSl tyOk) ?_
     refine qr8 (aX tyOk) ?_
     refine qr10eo (AList.idxOw (k := 0) tyOk) ?_
     refine kI ?_
     refine aB ?_))
 refine AWp.cvBox (id := 63) (rowF wtC wtZ e5H) rfl rfl (nn_cv0 cvN (cv1 3) cv01 cvN) ?_
 repeat (first
  | refine uA ?_
  | (refine rG 11 ?_
     refine qr11 (AList.litSl tyOk) ?_
     refine qr8 (aX tyOk) ?_
     refine AList.callM [] [] [64] [] [] [] [nnB (.p (.slice none 0 0)) (l1 3) 9] [] [nnB (.p (.slice none 0 0)) (l1 3) 9] rfl rfl FnV.func rfl Try.func35 rfl (by kernel_rfl) (trivial) (trivial) rfl (by exact ⟨.ag (lentAg rfl), trivial⟩) (.c (.owN 0 64 rfl)) (trivial) (nn_new rfl rfl) (n2) ?_
     refine kC ?_
     refine aB ?_)
  | (refine rG 12 ?_
     refine kA ?_
     refine qr11 (AList.litSl tyOk) ?_
     refine qr8 (aX tyOk) ?_
     refine qr10eo (AList.idxOw (k := 0) tyOk) ?_
     refine kI ?_
     refine aB ?_))
 refine AWp.cvBox (id := 64) (rowF wtC wtZ e5G) rfl rfl (nn_cv0 cvN (cv1 3) cvN (cv1 4)) ?_
 refine AWp.weak (S' := mkSt 169 [(1, .c (.pt 1 3 0 0)), (2, .c (.pt 2 3 0 0)), (3, .c (.pt 3 4 0 0)), (4, .c (.pt 4 4 0 0)), (5, .c (wpC e5W)), (6, .c (wpC e5S)), (11, .c (wpC e5H)), (12, .c (wpC e5G))] 
  [(1, ⟨false, 1, 3, 31, lF (bpC a)⟩), (2, ⟨false, 1, 3, 31, lF (bpC b)⟩), (3, ⟨false, 1, 4, 33, lF (bgC e5X)⟩), (4, ⟨false, 1, 4, 33, lF (bgC e5Y)⟩)
  ] [1, 2, 3, 4]) (Wk.mk [(1, some 1), (2, some 2), (3, some 3), (4, some 4)] rfl rfl rfl ?_ ?_) ?_
 ·exact ⟨⟨_, rfl, .c (LeC.pt _ _ _ _ _ rfl)⟩, ⟨_, rfl, .c (LeC.pt _ _ _ _ _ rfl)⟩, ⟨_, rfl, .c (LeC.pt _ _ _ _ _ rfl)⟩, ⟨_, rfl, .c (LeC.pt _ _ _ _ _ rfl)⟩, ⟨_, rfl, .c (LeC.refl _ rfl)⟩, ⟨_, rfl, .c (LeC.refl _ rfl)⟩, ⟨_, rfl, .c (LeC.fz rfl rfl rfl (fun i _ j _ => ⟨rfl, rowF_imm wtC_imm _ i j⟩))⟩, ⟨_, rfl, .c (LeC.fz rfl rfl rfl (fun i _ j _ => ⟨rfl, rowF_imm wtC_imm _ i j⟩))⟩, trivial⟩
 ·exact allH
 have hW9 : e5W.length = 9 := rfl
 have hW9' : (List.replicate 9 (([0, 1], [3]) : Wt)).length = 9 := rfl
 repeat (first
  | refine uA ?_
  | (refine AWp.draw (id := 13) mixed ?_; (iterate 4 refine kF ?_); refine kA ?_; refine AList.cut (l := 0) (h := 8) tyOk rfl rfl rfl rfl rfl rfl rfl rfl ⟨_, _, rfl, by first | rfl | omega⟩ (by omega) (by omega) ?_; refine aH rfl rfl rfl rfl Try.func14 rfl (by kernel_rfl) (k3') ?_; refine aK rfl rfl rfl rfl rfl (by simp only [cmpP, eq_self, decide_true]) ?_; refine kA ?_; (iterate 4 refine kF ?_); refine kA ?_; refine aH rfl rfl rfl rfl Try.func14 rfl (by kernel_rfl) (k4) ?_; refine aK rfl rfl rfl rfl rfl (by simp only [cmpP, eq_self, decide_true]) ?_; refine qr4 aS ?_; refine kA ?_; (iterate 4 refine kF ?_); refine kA ?_; refine aH rfl rfl rfl rfl Try.func14 rfl (by kernel_rfl) (k5) ?_; refine aK rfl rfl rfl rfl rfl (by simp only [cmpP, eq_self, decide_true]) ?_; refine qr4 aS ?_; refine kC ?_; refine aB ⟨by kernel_rfl, ?_⟩)
  | (refine rG 14 ?_
     (iterate 2 refine kF ?_)
     refine qr8 (aX tyOk) ?_
     refine kF ?_
     refine aH rfl rfl rfl rfl Try.func20 rfl (by kernel_rfl) (m2) ?_
     refine kA ?_
     (iterate 2 refine qr4 aN ?_)
     (iterate 2 refine kC ?_)
     refine aB ?_)
  | (refine rG 15 ?_
     (iterate 4 refine kF ?_)
     refine aH rfl rfl rfl rfl Try.func20 rfl (by kernel_rfl) (m3) ?_
     refine kA ?_
     (iterate 2 refine qr4 aN ?_)
     (iterate 2 refine kC ?_)
     refine aB ?_)
  | (refine AWp.draw (id := 16) mixed ?_; refine kF ?_; refine aH rfl rfl rfl rfl Try.func34 rfl (by kernel_rfl) (r3) ?_; (iterate 2 refine kF ?_); refine aH rfl rfl rfl rfl Try.func20 rfl (by kernel_rfl) (m4) ?_; refine kA ?_; (iterate 2 refine qr4 aN ?_); (iterate 2 refine kC ?_); refine aB ⟨by kernel_rfl, ?_⟩))
 have hb : ∀ k, k < ([2, 4, 0, 2, 2, 6] : List UInt8).length → sF [u8C 2, u8C 4, u8C 0, u8C 2, u8C 2, u8C 6] 1 k 0 = .p (.int .u8 ((([2, 4, 0, 2, 2, 6] : List UInt8).getD k 0).toNat : Nat)) := fun k hk => by
  match k, hk with
  | 0, _ => rfl
  | 1, _ => rfl
  | 2, _ => rfl
  | 3, _ => rfl
  | 4, _ => rfl
  | 5, _ => rfl
 have he : ∀ (P : Program) (t : TypeId) (w : World), (Go.binOp .eql t (.string ⟨([2, 4, 0, 2, 2, 6] : List UInt8).toArray⟩) (.string ⟨([2, 4, 0, 2, 2, 6] : List UInt8).toArray⟩)).run P w = .ok (.bool true) w := fun P t w => by rw [strEq_run, decide_eq_true rfl]
 repeat (first
  | refine uB ?_
  | refine AWp.ret ?_
  | (refine AWp.draw (id := 17) mixed ?_; (iterate 3 refine kA ?_); refine aK rfl rfl rfl rfl rfl (by simp only [cmpP, eq_self, decide_true]) ?_; refine qr4 aS ?_; (iterate 2 refine kA ?_); refine aK rfl rfl rfl rfl rfl (by simp only [cmpP, eq_self, decide_true]) ?_; refine qr4 aS ?_; (iterate 2 refine kA ?_); refine aK rfl rfl rfl rfl rfl (by simp only [cmpP, eq_self, decide_true]) ?_; refine qr4 aS ?_; (iterate 2 refine kA ?_); refine AList.cut (l := 0) (h := 1) tyOk rfl rfl rfl rfl rfl rfl rfl rfl ⟨_, _, rfl, by first | rfl | omega⟩ (by omega) (by omega) ?_; refine aH rfl rfl rfl rfl Try.func27 rfl (by kernel_rfl) (by1') ?_; refine qr11 (AList.litOw tyOk) ?_; refine AList.toStr Try.underlying88 Try.underlying5 Try.underlying9 rfl rfl rfl rfl (hb) ((by decide)) ?_; refine AList.bin rfl rfl rfl rfl rfl (he _ _) rfl ?_; refine qr4 aS ?_; refine kC ?_; refine aB ⟨by kernel_rfl, ?_⟩))
 refine ⟨mkSt 169 [(0, .c (bC true))] [] [], [], Wk.mk [] rfl rfl rfl ?_ trivial, rfl, rfl, aR1⟩
 exact allT
end Go.Proofs.Ytekkldgmjdllbaa
end
section
namespace Go.Proofs.Ytekkldgmjdllbaa
open Go.ChangeShapes Go.WideShapes Go.ChangeAt Go.RowKit Go.Flow Go.AV
theorem cellsW25 : Try.prog.cellsOf 62 = 2 := by kernel_rfl
theorem bytesW25 : Try.prog.bytesOf 62 = 48 := by kernel_rfl
section
variable {H : Type} {enc : TypeId × Value → H} {W : World}
theorem opn_ca5 : Opn enc Try.prog W 24 ca5C Ca5.ok :=
 (Opn.struct Try.underlying24 (n := 4) (by kernel_rfl) (.cons opn_ints rfl cellsL (.cons opn_ints rfl cellsL (.cons opn_ints rfl cellsL (.cons opn_ints rfl cellsL .nil))))).conv fun a h =>
   ⟨⟨a.1.length, fun k => a.1.getD k 0, a.2.1.length, fun k => a.2.1.getD k 0, a.2.2.1.length, fun k => a.2.2.1.getD k 0, a.2.2.2.1.length, fun k => a.2.2.2.1.getD k 0⟩,
    ⟨h.1.1, h.2.1.1, h.2.2.1.1, h.2.2.2.1.1⟩, fun _ h => h⟩
theorem opn_bg2 : Opn enc Try.prog W 46 (fun q : Bg × Bg => bgC q.1 ++ bgC q.2) (fun _ => True) :=
 (opn_bg.array Try.underlying46 (by kernel_rfl : Try.prog.cellsOf 33 = 4) (by kernel_rfl)).conv fun L h => by
   obtain ⟨h1, h2⟩ := h
   obtain ⟨x, y, rfl⟩ : ∃ x y, L = [x, y] := by
    match L, h1 with
    | [x, y], _ => exact ⟨x, y, rfl⟩
   exact ⟨(x, y), trivial, fun _ h => h⟩
abbrev q3C (q : Int × Int × Int) : List CV := [iC q.1, iC q.2.1, iC q.2.2]
abbrev q3Ok (q : Int × Int × Int) : Prop := iOk q.1 ∧ iOk q.2.1 ∧ iOk q.2.2
theorem opn_q3r : Opn enc Try.prog W 25 q3C q3Ok :=
 (opn_int.array Try.underlying25 cellsI (by kernel_rfl)).conv fun L h => by
   obtain ⟨h1, h2⟩ := h
   obtain ⟨x, y, z, rfl⟩ : ∃ x y z, L = [x, y, z] := by
    match L, h1 with
    | [x, y, z], _ => exact ⟨x, y, z, rfl⟩
   exact ⟨(x, y, z), ⟨h2 x (by simp), h2 y (by simp), h2 z (by simp)⟩, fun _ h => h⟩
theorem opn_q33r : Opn enc Try.prog W 26 (fun q : (Int × Int × Int) × Int × Int × Int => q3C q.1 ++ q3C q.2) (fun q => q3Ok q.1 ∧ q3Ok q.2) :=
 (opn_q3r.array Try.underlying26 (by kernel_rfl : Try.prog.cellsOf 25 = 3) (by kernel_rfl)).conv fun L h => by
   obtain ⟨h1, h2⟩ := h
   obtain ⟨x, y, rfl⟩ : ∃ x y, L = [x, y] := by
    match L, h1 with
    | [x, y], _ => exact ⟨x, y, rfl⟩
   exact ⟨(x, y), ⟨h2 x (by simp), h2 y (by simp)⟩, fun _ h => h⟩
theorem opn_q4r : Opn enc Try.prog W 73 (fun q : Int × Int × Int × Int => [iC q.1, iC q.2.1, iC q.2.2.1, iC q.2.2.2]) (fun q => iOk q.1 ∧ iOk q.2.1 ∧ iOk q.2.2.1 ∧ iOk q.2.2.2) :=
 (opn_int.array Try.underlying73 cellsI (by kernel_rfl)).conv fun L h => by
   obtain ⟨h1, h2⟩ := h
   obtain ⟨x, y, z, u, rfl⟩ : ∃ x y z u, L = [x, y, z, u] := by
    match L, h1 with
    | [x, y, z, u], _ => exact ⟨x, y, z, u, rfl⟩
   exact ⟨(x, y, z, u), ⟨h2 x (by simp), h2 y (by simp), h2 z (by simp), h2 u (by simp)⟩, fun _ h => h⟩
def rwOk (p : List Wt) : Prop := p.length ≤ 4611686018427387904 ∧ (∀ k, k < p.length → (p.getD k wtZ).1.length ≤ 4611686018427387904 ∧ (p.getD k wtZ).2.length ≤ 4611686018427387904) ∧ ∀ k, k < p.length → (∀ i, i < (p.getD k wtZ).1.length → iOk ((p.getD k wtZ).1.getD i 0)) ∧ ∀ i, i < (p.getD k wtZ).2.length → iOk ((p.getD k wtZ).2.getD i 0)
theorem opn_wt : Opn enc Try.prog W 62 wtC (fun w => (w.1.length ≤ 4611686018427387904 ∧ ∀ a ∈ w.1, -9223372036854775808 ≤ a ∧ a ≤ 9223372036854775807) ∧ w.2.length ≤ 4611686018427387904 ∧ ∀ a ∈ w.2, -9223372036854775808 ≤ a ∧ a ≤ 9223372036854775807) :=
 (Opn.struct Try.underlying62 (n := 2) (by kernel_rfl) (.cons opn_ints rfl cellsL (.cons opn_ints rfl cellsL .nil))).conv fun a h => ⟨(a.1, a.2.1), ⟨h.1, h.2.1⟩, fun _ h => h⟩
theorem opn_wts : Opn enc Try.prog W 27 (fun p : List Wt => [wpC p]) rwOk :=
 (opn_wt.slice wtZ Try.underlying27 cellsW25 bytesW25 (fun _ => rfl) (fun _ => rfl)).mono fun p h => by
   have hg : ∀ k, k < p.length → p.getD k wtZ ∈ p := fun k hk => mem_getD hk
   have hi : ∀ (l : List Int), (∀ a ∈ l, -9223372036854775808 ≤ a ∧ a ≤ 9223372036854775807) → ∀ i, i < l.length → iOk (l.getD i 0) := fun l hl i hi => hl _ (mem_getD hi)
   refine ⟨by have := reachBytes_lt; omega, fun k hk => ?_, fun k hk => ?_⟩
   ·exact ⟨(h.2 _ (hg k hk)).1.1, (h.2 _ (hg k hk)).2.1⟩
   ·exact ⟨hi _ (h.2 _ (hg k hk)).1.2, hi _ (h.2 _ (hg k hk)).2.2⟩
end
end Go.Proofs.Ytekkldgmjdllbaa
end
