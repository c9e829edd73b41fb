/- Parts of the proof: AIter, A28y. -/
import Derived.Test.YtjjaehpkccejaaaG26
import Derived.Test.YtjjaehpkccejaaaG32
import Derived.Test.YtjjaehpkccejaaaG20
set_option linter.unusedSimpArgs false
set_option linter.unusedVariables false
section
namespace Go.AV
open Go Go.RowKit Go.Flow Go.ChangeMaps
section
variable {P : Program} {tab : List (TypeId × TD)}
/-- Block b is an iterator over s, at pos. -/
def itK (b : Nat) (s : ByteArray) (pos : Nat) (b' : Nat) (o : Obj) : Prop := b' = b ∧ o = .stringIter s pos
def itF (b : Nat) (s : ByteArray) (pos : Nat) (_ _ : Nat) : CV := .mo (itK b s pos)
abbrev itB (ty : TypeId) (b : Nat) (s : ByteArray) (pos : Nat) : AB := ⟨false, 1, 1, ty, itF b s pos⟩
abbrev itP (b : Nat) : CV := .p (.pointer (some ⟨b, 0, none⟩))
theorem at_it {b0 : Base} {σ : Nat → Option Value} {h : Nat → Option AB} {w : World} (H : HRel b0 σ h w) {id : Nat} {ty : TypeId} {b pos : Nat} {s : ByteArray} (hh : h id = some (itB ty b s pos)) : σ id = some (.map (some b)) ∧ w.heap[b]? = some (.stringIter s pos) := by
 obtain ⟨v, e1, e2⟩ := H.blk id _ hh
 rcases e2 with ⟨h1, _⟩ | ⟨b', cap, cs, h1, _, _, h4⟩ | ⟨_, _, _, b', o, h1, h2, h3⟩
 ·cases h1
 ·obtain ⟨u, _, k2⟩ := h4 0 (show 0 < 1 by omega) 0 (show 0 < 1 by omega)
  exact k2.2.elim
 ·subst h1
  rcases h3.2 with h3 | ⟨K', h3, h4⟩
  ·cases h3
  ·cases h3
   obtain ⟨rfl, rfl⟩ := h4
   exact ⟨e1, h2⟩
section txt
variable {ops : Array Oper} {rest : List Oper} {S : St} {Q : St → Prop} {ty : TypeId} {pos : String} {after : Array Edge} {guard : Option (Nat × Bool)}
theorem AText.rangeStr {id : Nat} {t : TypeId} {x : Operand} {s : ByteArray} (hw : S.wants ops { dst := some id, op := .range t x, type := ty, pos, after, guard } = some true) (hd : dOk S.n (some id) = true) (hf : S.fr id = true) (hx : S.opd x = some (.c (.p (.string s)))) (ht : P.underlying t = some .string)
 (hn : ∀ b, AText P ops rest (S.eff (some id) ⟨.c (itP b), [(id, some (itB t b s 0))], [id]⟩) Q) : AText P ops ({ dst := some id, op := .range t x, type := ty, pos, after, guard } :: rest) S Q := ⟨fun rd b0 a w K hR hK => by
 obtain ⟨σ, R⟩ := hR
 obtain ⟨hno, hlow⟩ := R.fr id hf
 have e1 : a.eval x = .string s := (opd_rep R hx).2
 have hrun : (execOp a.eval { dst := some id, op := .range t x, type := ty, pos, after, guard }).run P w = .ok (.value (.pointer (some ⟨w.heap.size, 0, none⟩))) (w.alloc (.stringIter s 0)) := by
  simp [execOp, e1, Instr.range, run_underlying ht, newObj, Sem.run, Result.andThen]
 unfold wpListIn
 rw [if_pos (wants_rep R hw)]
 refine GoesA.wpIn (K0 := fun v w' => v = .pointer (some ⟨w.heap.size, 0, none⟩) ∧ w' = w.alloc (.stringIter s 0)) (.inl (by rw [hrun]; exact ⟨rfl, rfl⟩)) fun v w' ⟨k1, k2⟩ => ?_
 subst k1 k2
 have hE : Ext w (w.alloc (.stringIter s 0)) := (Ext.refl w).alloc _
 have hsub : ∀ i u, σ i = some u → put σ id (some (.map (some w.heap.size))) i = some u := fun i u h => by
  rw [put_ne _ _ (fun e => by rw [e, hno] at h; cases h)]; exact h
 obtain ⟨H, _, hO⟩ := R.hp.put (id := id) (B' := itB t w.heap.size s 0) (v' := .map (some w.heap.size)) (σ' := put σ id (some (.map (some w.heap.size)))) (h' := look [(id, some (itB t w.heap.size s 0))] S.h) (w' := w.alloc (.stringIter s 0)) hsub (put_same _ _ _) (put_same _ _ _) (fun i hi => .inr (put_ne _ _ hi)) (Keep.of_ext hE)
  (fun i u hi => by
    have h1 := (b0.one i u hi).1
    rw [look_one, put_ne _ _ (by omega)]
    exact (R.hp.fx i u hi).2) (fun i hi => put_ne _ _ (by omega))
  (fun i u b hi h1 h2 h3 => by
    have h1' : S.h i ≠ none := by rw [look_one, put_ne _ _ hi] at h1; exact h1
    exact Below.block hE b (R.hp.lt ⟨i, u, h1', h2, h3⟩))
  (.inr <| .inr ⟨rfl, rfl, rfl, w.heap.size, _, rfl, heap_alloc_new w _, rfl, .inr ⟨_, rfl, rfl, rfl⟩⟩)
  (fun b hb => by
    cases hb
    refine ⟨.inl R.ext.size, .inr (Nat.le_refl _), fun i u hi h1 h2 h3 => ?_⟩
    have h1' : S.h i ≠ none := by rw [look_one, put_ne _ _ hi] at h1; exact h1
    have := R.hp.lt ⟨i, u, h1', h2, h3⟩
    omega)
 exact (hn w.heap.size).get rd b0 _ _ K ⟨put σ id (some (.map (some w.heap.size))), R.step (e := ⟨.c (itP w.heap.size), [(id, some (itB t w.heap.size s 0))], [id]⟩) hd hsub (Keep.of_ext hE) H hO (fun _ => ⟨rfl, rfl⟩) (fun i hi => by
  by_cases e : i = id
  ·exact .inr (by simp [e])
  ·rw [put_ne _ _ e] at hi; exact .inl hi)⟩ hK⟩
end txt
section ops
variable {ops : Array Oper} {rest : List Oper} {acc : List (List Nat × List Nat)} {S : St} {Q : List (List Nat × List Nat) → St → Prop} {dst : Option Tmp} {ty : TypeId} {pos : String} {after : Array Edge} {guard : Option (Nat × Bool)}
theorem AList.nextEnd {it : Operand} {id b n : Nat} {s : ByteArray} {bt : TypeId} (hw : S.wants ops { dst, op := .next it true, type := ty, pos, after, guard } = some true) (hd : dOk S.n dst = true)
 (hx : S.opd it = some (.c (itP b))) (hh : S.h id = some (itB bt b s n)) (hp : Nat.ble s.size n = true)
 (hn : AList P ops rest (([id], []) :: acc) (S.eff dst ⟨.tu [.c (.p (.bool false))], [], []⟩) Q) : AList P ops ({ dst, op := .next it true, type := ty, pos, after, guard } :: rest) acc S Q :=
 AList.val [id] _ hw hd (fun S1 h1 hr b0 σ a w R => by
  have e1 : a.eval it = .pointer (some ⟨b, 0, none⟩) := (opd_rep R ((h1 it (by simp [Op.operands])).trans hx)).2
  obtain ⟨-, e2⟩ := at_it R.hp ((hr id (by simp)).trans hh)
  refine ⟨.tuple #[.bool false], ?_, [_], rfl, ⟨rfl, rfl⟩, trivial⟩
  have := Nat.ble_eq.mp hp
  simp [execOp, e1, Instr.next, getObj, Sem.run, e2, Result.andThen, Nat.not_lt.2 this]) hn
theorem AList.nextStr {it : Operand} {id b n wd c : Nat} {s : ByteArray} {bt : TypeId} (hw : S.wants ops { dst, op := .next it true, type := ty, pos, after, guard } = some true) (hd : dOk S.n dst = true)
 (hx : S.opd it = some (.c (itP b))) (hh : S.h id = some (itB bt b s n)) (hp : Nat.blt n s.size = true) (hu : Utf8.decode s n = (c, wd))
 (hn : AList P ops rest (([id], [id]) :: acc) (S.eff dst ⟨.tu [.c (.p (.bool true)), .c (.p (.int .i64 n)), .c (.p (.int .i32 c))], [(id, some (itB bt b s (n + wd)))], []⟩) Q) : AList P ops ({ dst, op := .next it true, type := ty, pos, after, guard } :: rest) acc S Q :=
 AList.cons [id] ⟨.tu [.c (.p (.bool true)), .c (.p (.int .i64 n)), .c (.p (.int .i32 c))], [(id, some (itB bt b s (n + wd)))], []⟩ (LStep.of hw fun S1 hA hr1 _ b0 σ a w R => by
  have hh1 := (hr1 id (by simp)).trans hh
  have e1 : a.eval it = .pointer (some ⟨b, 0, none⟩) := (opd_rep R ((hA.op it (by simp [Op.operands])).trans hx)).2
  obtain ⟨hσ, e3⟩ := at_it R.hp hh1
  have hlt := Nat.blt_eq.mp hp
  have hrun : (execOp a.eval { dst, op := .next it true, type := ty, pos, after, guard }).run P w = .ok (.value (.tuple #[.bool true, .int .i64 n, .int .i32 c])) (setBlock w b (.stringIter s (n + wd))) := by
   simp [execOp, e1, Instr.next, getObj, setObj, Sem.run, e3, Result.andThen, hlt, hu, setBlock, goInt]
  rw [hrun]
  have hobj : (setBlock w b (.stringIter s (n + wd))).heap[b]? = some (.stringIter s (n + wd)) := by
   have := (Array.getElem?_eq_some_iff.1 e3).1
   simp [setBlock, this]
  have hoth : ∀ i, i ≠ b → (setBlock w b (.stringIter s (n + wd))).heap[i]? = w.heap[i]? := fun i hi => by
   simp only [setBlock]
   rw [Array.getElem?_setIfInBounds_ne (Ne.symm hi)]
  have hbo : own σ S1.h b := ⟨id, _, by rw [hh1]; simp, hσ, rfl⟩
  have hK' : Keep (own σ S1.h) w (setBlock w b (.stringIter s (n + wd))) := ⟨rfl, rfl, rfl, by simp [setBlock], fun i _ ho => hoth i fun e => ho (e ▸ hbo)⟩
  obtain ⟨H, _, hO⟩ := R.hp.put (id := id) (B' := itB bt b s (n + wd)) (v' := .map (some b)) (σ' := σ) (h' := look [(id, some (itB bt b s (n + wd)))] S1.h) (w' := setBlock w b (.stringIter s (n + wd)))
   (fun _ _ h => h) (put_same _ _ _) hσ (fun i hi => .inr (put_ne _ _ hi)) hK'
   (fun i u hi => by
     by_cases h1 : i = id
     ·subst h1; rw [look_one, put_same]; simp
     ·rw [look_one, put_ne _ _ h1]; exact (R.hp.fx i u hi).2) (fun _ _ => rfl)
   (fun i u c hi h1 h2 h3 => hoth c fun e => by
     subst e
     have h1' : S1.h i ≠ none := by rw [look_one, put_ne _ _ hi] at h1; exact h1
     exact hi (R.hp.inj i id u _ c h1' (by rw [hh1]; simp) h2 hσ h3 rfl))
   (.inr <| .inr ⟨rfl, rfl, rfl, b, _, rfl, hobj, rfl, .inr ⟨_, rfl, rfl, rfl⟩⟩)
   (fun c hc => by
     cases hc
     exact ⟨R.hp.new b hbo, .inl hbo, fun i u hi h1 h2 h3 => by
      have h1' : S1.h i ≠ none := by rw [look_one, put_ne _ _ hi] at h1; exact h1
      exact hi (R.hp.inj i id u _ b h1' (by rw [hh1]; simp) h2 hσ h3 rfl)⟩)
  exact ⟨σ, R.step (e := ⟨.tu [.c (.p (.bool true)), .c (.p (.int .i64 n)), .c (.p (.int .i32 c))], [(id, some (itB bt b s (n + wd)))], []⟩) (by rw [hA.n]; exact hd) (fun _ _ h => h) hK' H hO (fun _ => ⟨_, rfl, ⟨rfl, rfl⟩, ⟨rfl, rfl⟩, ⟨rfl, rfl⟩, trivial⟩) fun i h => .inl h⟩) hn
theorem HeapOk.it {S : St} {ren : List (Nat × Option Nat)} {id o n : Nat} {ty : TypeId} {b m : Nat} {s : ByteArray} (hr : assoc ren id = some (some o)) (hh : S.h o = some (itB ty b s n)) (hm : m = n) : HeapOk S ren id (itB ty b s m) :=
 .inr ⟨o, 1, itF b s n, .inl hr, rfl, hh, fun _ _ _ _ => by subst hm; exact LeC.refl _ rfl⟩
end ops
end
end Go.AV
end

section
namespace Go.Proofs.Ytjjaehpkccejaaa
open Go.RowKit Go.Flow Go.AV Go.Plain
def rwD (s : ByteArray) (k : Nat) : Bool := decide (((s.get! k).toNat : Int) = 35)
def rwB (s : ByteArray) : Bp := ⟨s.size, 1, s.size, rwD s⟩
def Ascii (s : ByteArray) : Prop := s.size ≤ 96 ∧ ∀ k, k < s.size → (s.get! k).toNat < 128
theorem get_ba {s : ByteArray} {k : Nat} (h : k < s.size) : s[k]? = some (s.get! k) := by
 obtain ⟨a⟩ := s
 have h' : k < a.size := h
 show (if h : k < a.size then some a[k] else none) = some (a[k]!)
 rw [dif_pos h', getElem!_pos a k h']
theorem dec_ascii {s : ByteArray} {k : Nat} (h : (s.get! k).toNat < 128) : Utf8.decode s k = ((s.get! k).toNat, 1) := by
 unfold Utf8.decode
 simp only [Nat.add_zero]
 rw [if_pos h]
set_option maxHeartbeats 1000000 in
set_option maxRecDepth 100000 in
theorem row28_A (s : ByteArray) (hs : Ascii s) : ACalls Try.prog 31 [.c (.p (.string s))] (.ag (bpC (rwB s))) := by
 obtain ⟨h96, h128⟩ := hs
 refine acalls_at Try.func31 rfl rfl Try.ntmps31 rfl ?_
 repeat (first
  | refine AWp.seq ?_
  | (refine rG 0 ?_
     refine qr5 (aM tyOk) ?_
     refine aB ?_)
  | (refine rG 1 ?_
     refine kA ?_
     refine AList.lenStr (s.size) (by first | rfl | assumption) Try.underlying9 rfl rfl rfl ?_
     refine qr8 (aX tyOk) ?_
     refine qr5 (aM tyOk) ?_
     refine kI ?_
     refine aB ?_))
 refine AWp.text ?_
 refine AText.split 1 ?_
 refine kA ?_
 refine aB ?_
 refine AText.rangeStr rfl rfl rfl rfl Try.underlying9 fun b => ?_
 refine AText.all ?_
 refine aB ?_
 repeat (first
  | refine thenA_n ?_
  | refine AWp.block ?_)
 refine AWp.round (fun i : Nat =>
  mkSt 23 [(0, .c (.p (.string s))), (2, .c (.pt 2 3 0 0)), (3, .c (.pt 3 3 0 0)), (9, .c (itP b))] [(2, ⟨false, 1, 3, 47, lF [iC 0, iC 0, nl8]⟩), (3, ⟨false, 1, 3, 47, lF [iC s.size, iC 1, .ow 30]⟩), (9, itB 9 b s (i)), (30, rowBl (i) (rwD s))] [2, 3, 9, 30]
  ) (fun i => i ≤ s.size) (fun i => s.size - i) 0 (Nat.zero_le _) ?_ (fun i hi => ?_)
 ·refine Wk.mk [(2, some 2), (3, some 3), (9, some 9), (30, none)] rfl rfl rfl ?_ ?_
  ·exact allT
  ·exact ⟨hSm, HeapOk.box rfl rfl ⟨LeC.int rfl, LeC.int rfl, LeC.nil _ rfl, trivial⟩ rfl, HeapOk.it rfl rfl rfl, HeapOk.nil rfl rfl, trivial⟩
 by_cases hil : i < s.size
 ·have hb := get_ba hil
  have hdec := dec_ascii (h128 i hil)
  have hbl : Nat.blt i s.size = true := Nat.blt_eq.mpr hil
  obtain ⟨c, hc⟩ : ∃ c : Int, ((s.get! i).toNat : Int) = c := ⟨_, rfl⟩
  have hd : rwD s i = decide (c = 35) := by unfold rwD; rw [hc]
  repeat (first
   | refine AWp.seq ?_
   | refine thenA_n ?_
   | refine AWp.block ?_
   | refine AWp.skip ?_
   | refine AWp.condT rfl cnT ?_
   | (refine rG 3 ?_
      refine AList.nextStr (id := 9) (c := (s.get! i).toNat) (wd := 1) rfl rfl rfl rfl (hbl) (hdec) ?_
      refine qr4 aN ?_
      refine aB ?_)
   | (refine rG 4 ?_
      refine qr4 aN ?_
      refine kC ?_
      refine aB ?_))
  by_cases h35 : c = 35
  ·rw [decide_eq_true h35] at hd
   repeat (first
    | refine thenA_n ?_
    | refine inBlk_n ?_
    | (refine AWp.draw (id := 5) mixed ?_; refine kD ?_; refine kE ?_; (iterate 2 refine kA ?_); refine AList.idxStr (i) _ (c) (hb) (hc) Try.underlying9 rfl rfl rfl rfl ?_; refine qr5t aK ?_; refine qr11 (AList.litSl tyOk) ?_; refine AList.appL tyOk rfl rfl rfl rfl rfl rfl rfl rfl rfl rfl oM oM ?_; refine kD ?_; refine kI ?_; refine aB ⟨by kernel_rfl, ?_⟩))
   refine ⟨i + 1, hil, Wk.mk [(2, some 2), (3, some 3), (9, some 9), (30, some 20)] rfl rfl rfl ?_ ?_, by omega⟩
   ·exact allT
   ·exact ⟨hSm, HeapOk.box rfl rfl ⟨LeC.int rfl, LeC.int rfl, LeC.ow _ _ rfl, trivial⟩ rfl, HeapOk.it rfl rfl rfl, HeapOk.row rfl rfl rfl (app_F (fun _ _ => cell1 rfl) (cell1 (by show bC true = bC _; rw [hd])) (fun _ _ => cell1 rfl)), trivial⟩
  ·rw [decide_eq_false h35] at hd
   repeat (first
    | refine thenA_n ?_
    | refine inBlk_n ?_
    | (refine AWp.draw (id := 5) mixed ?_; refine kD ?_; refine kE ?_; (iterate 2 refine kA ?_); refine AList.idxStr (i) _ (c) (hb) (hc) Try.underlying9 rfl rfl rfl rfl ?_; refine qr5f aJ ?_; refine qr11 (AList.litSl tyOk) ?_; refine AList.appL tyOk rfl rfl rfl rfl rfl rfl rfl rfl rfl rfl oM oM ?_; refine kD ?_; refine kI ?_; refine aB ⟨by kernel_rfl, ?_⟩))
   refine ⟨i + 1, hil, Wk.mk [(2, some 2), (3, some 3), (9, some 9), (30, some 20)] rfl rfl rfl ?_ ?_, by omega⟩
   ·exact allT
   ·exact ⟨hSm, HeapOk.box rfl rfl ⟨LeC.int rfl, LeC.int rfl, LeC.ow _ _ rfl, trivial⟩ rfl, HeapOk.it rfl rfl rfl, HeapOk.row rfl rfl rfl (app_F (fun _ _ => cell1 rfl) (cell1 (by show bC false = bC _; rw [hd])) (fun _ _ => cell1 rfl)), trivial⟩
 ·obtain rfl : i = s.size := by omega
  have hend : Nat.ble s.size s.size = true := Nat.ble_eq.mpr (Nat.le_refl _)
  repeat (first
   | refine AWp.seq ?_
   | refine thenA_n ?_
   | refine AWp.exit ?_
   | refine AWp.ret ?_
   | refine AWp.condF rfl cnF ?_
   | (refine rG 3 ?_
      refine AList.nextEnd (id := 9) rfl rfl rfl rfl (hend) ?_
      refine qr4 aN ?_
      refine aB ?_)
   | (refine rG 6 ?_
      refine kF ?_
      refine kI ?_
      refine aB ?_))
  refine ⟨mkSt 23 [(2, .c (.pt 2 3 0 0))] [(2, ⟨false, 1, 3, 47, lF (bpC (rwB s))⟩)] [2], [(2, ⟨false, 1, 3, 47, lF (bpC (rwB s))⟩)], Wk.mk [(2, some 2)] rfl rfl rfl ?_ ?_, rfl, rfl, ARets.one (x := .ag _) (ARes.box tyOk rfl rfl rfl rfl rfl rfl rfl)⟩
  ·exact allT
  ·exact ⟨HeapOk.box rfl rfl ⟨LeC.int rfl, LeC.int rfl, LeC.fz rfl rfl rfl (fun i _ => cell1 ⟨rfl, rfl⟩), trivial⟩ rfl, trivial⟩
end Go.Proofs.Ytjjaehpkccejaaa
end
