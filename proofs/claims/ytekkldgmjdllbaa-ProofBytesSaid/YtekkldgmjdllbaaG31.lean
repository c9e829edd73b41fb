/- Parts of the proof: AFull, ABnd, A25b, A25c. -/
import Derived.Laws.Pointers
import Derived.Test.YtekkldgmjdllbaaG28
import Derived.WideKeyMaps
import Derived.MapKept
import Derived.Carry
import Derived.Test.YtekkldgmjdllbaaG30
import Derived.Test.YtekkldgmjdllbaaG27
set_option linter.unusedSimpArgs false
set_option linter.unusedVariables false
section
namespace Go.AV
open Go Go.RowKit Go.Flow
section
variable {P : Program} {tab : List (TypeId × TD)}
section ops
variable {ops : Array Oper} {rest : List Oper} {acc : List (List Nat × List Nat)} {S : St} {Q : List (List Nat × List Nat) → St → Prop} {dst : Option Tmp} {ty : TypeId} {pos : String} {after : Array Edge} {guard : Option (Nat × Bool)}
theorem ptr_under {t e : TypeId} (h : P.underlying t = some (.pointer e)) : P.underlying t = some (.pointer (P.pointee t)) := by
 rw [h]
 simp [Program.pointee, h]
theorem AList.ptNil {xt yt : TypeId} {x : Operand} {y : CV} {b : Bool} (hw : S.wants ops { dst, op := .binOp .eql xt x (.const (.pointer none)) yt, type := ty, pos, after, guard } = some true) (hd : dOk S.n dst = true) (hx : S.opd x = some (.c y)) (hy : (match y with | .p (.pointer none) => b == true | .pt .. => b == false | .pl .. => b == false | _ => false) = true)
 (ht : P.underlying xt = some (.pointer (P.pointee xt)))
 (hn : AList P ops rest (([], []) :: acc) (S.eff dst ⟨.c (.p (.bool b)), [], []⟩) Q) : AList P ops ({ dst, op := .binOp .eql xt x (.const (.pointer none)) yt, type := ty, pos, after, guard } :: rest) acc S Q :=
 AList.val [] _ hw hd (fun S1 g1 _ b0 σ a w R => by
  obtain ⟨p, hp, hb⟩ : ∃ p : Option Addr, a.eval x = .pointer p ∧ p.isNone = b := by
   have hr := opd_rep R ((g1 x (by simp [Op.operands])).trans hx)
   cases y with
   | p v =>
     cases v with
     | pointer q =>
       cases q with
       | none => exact ⟨none, hr.2, by simpa using hy.symm⟩
       | some q => cases hy
     | _ => cases hy
   | pt id sz k j => obtain ⟨-, v, b, e1, e2, e3⟩ := hr; exact ⟨_, e3, by simpa using hy.symm⟩
   | pl n sz F k j => obtain ⟨-, ad, e1, e2⟩ := hr; exact ⟨_, e1, by simpa using hy.symm⟩
   | _ => cases hy
  refine ⟨.bool b, ?_, rep_p rfl⟩
  have e2 : a.eval (.const (.pointer none)) = .pointer none := rfl
  have hgd : (eqGuard .eql xt x (.const (.pointer none)) (.pointer p) (.pointer none)).run P w = .ok () w := by unfold eqGuard; rfl
  have hr : (Go.binOp .eql xt (.pointer p) (.pointer none)).run P w = .ok (.bool b) w := by
   simp [binOp, run_equal_pointer_nil w xt p ht, hb]
  simp only [execOp, hp, e2, Sem.run_bind, hgd, hr, Result.andThen_ok, Sem.run_pure]) hn
theorem AList.ptNilT {xt yt : TypeId} {x : Operand} (hw : S.wants ops { dst, op := .binOp .eql xt x (.const (.pointer none)) yt, type := ty, pos, after, guard } = some true) (hd : dOk S.n dst = true) (hx : S.opd x = some (.c (.p (.pointer none))))
 (ht : P.underlying xt = some (.pointer (P.pointee xt)))
 (hn : AList P ops rest (([], []) :: acc) (S.eff dst ⟨.c (.p (.bool true)), [], []⟩) Q) : AList P ops ({ dst, op := .binOp .eql xt x (.const (.pointer none)) yt, type := ty, pos, after, guard } :: rest) acc S Q := AList.ptNil hw hd hx rfl ht hn
theorem AList.ptNilF {xt yt : TypeId} {x : Operand} {y : CV} (hw : S.wants ops { dst, op := .binOp .eql xt x (.const (.pointer none)) yt, type := ty, pos, after, guard } = some true) (hd : dOk S.n dst = true) (hx : S.opd x = some (.c y)) (hy : (match y with | .pt .. => true | .pl .. => true | _ => false) = true)
 (ht : P.underlying xt = some (.pointer (P.pointee xt)))
 (hn : AList P ops rest (([], []) :: acc) (S.eff dst ⟨.c (.p (.bool false)), [], []⟩) Q) : AList P ops ({ dst, op := .binOp .eql xt x (.const (.pointer none)) yt, type := ty, pos, after, guard } :: rest) acc S Q :=
 AList.ptNil hw hd hx (by cases y <;> first | rfl | cases hy) ht hn
end ops
end
section
variable {P : Program}
def cellsS (m : Nat) (C : Nat → CV) : List CV := (List.range m).map C
theorem repS {O : Nat → Prop} {σ : Nat → Option Value} {w : World} {m : Nat} {C : Nat → CV} {vs : List Value} (hm : ((List.range m).all fun i => immC (C i)) = true) (h2 : vs.length = m) (h3 : ∀ i, i < m → ∃ v, vs[i]? = some v ∧ v.oneCell' = true ∧ RepI O w (C i) v) : RepV σ O w (.ag (cellsS m C)) (.agg vs.toArray) :=
 ⟨vs, rfl, RepL.of_get (by simp [cellsS, h2]) fun i x u g1 g2 => by
   have hlt : i < m := by have := (List.getElem?_eq_some_iff.1 g1).1; simpa [cellsS] using this
   unfold cellsS at g1
   rw [List.getElem?_map, List.getElem?_range hlt] at g1
   cases g1
   obtain ⟨v, k1, k2, k3⟩ := h3 i hlt
   rw [g2] at k1
   cases k1
   exact repC_imm (List.all_eq_true.1 hm i (List.mem_range.2 hlt)) k2 k3⟩
section ops
variable {ops : Array Oper} {rest : List Oper} {acc : List (List Nat × List Nat)} {S : St} {Q : List (List Nat × List Nat) → St → Prop} {dst : Option Tmp} {ty : TypeId} {pos : String} {after : Array Edge} {guard : Option (Nat × Bool)}
theorem AList.makeFs {f : FuncId} {x : Operand} {l : List CV} (hw : S.wants ops { dst, op := .makeFunc (.func f) #[x] #[], type := ty, pos, after, guard } = some true) (hd : dOk S.n dst = true)
 (hx : S.opd x = some (.ag l)) (hi : l.all immC = true)
 (hn : AList P ops rest (([], []) :: acc) (S.eff dst ⟨.c (.fs f l.length fun i => l.getD i .any), [], []⟩) Q) : AList P ops ({ dst, op := .makeFunc (.func f) #[x] #[], type := ty, pos, after, guard } :: rest) acc S Q :=
 AList.val [] _ hw hd (fun S1 h1 _ b0 σ a w R => by
  obtain ⟨vs, e1, e2⟩ := opd_rep R ((h1 x (by simp [Op.operands])).trans hx)
  refine ⟨.func (.func f) #[a.eval x] #[], by simp [execOp, Instr.makeFunc], rfl, vs, by rw [e1], e2.length, fun i hi' => ?_⟩
  have g := List.getElem?_eq_getElem hi'
  obtain ⟨v, k1, k2⟩ := e2.get g
  have him := List.all_eq_true.1 hi _ (List.mem_of_getElem? g)
  have hg : l.getD i .any = l[i] := by rw [List.getD_eq_getElem?_getD, g]; rfl
  refine ⟨v, k1, k2.1, ?_⟩
  show RepI _ w (l.getD i .any) v
  rw [hg]
  exact repI_imm him k2) hn
theorem AList.callS {f m : Nat} {C : Nat → CV} {fn : Func} {z : Operand} {xs : Array Operand} {ats : Array TypeId} {args : List V1} {r : AV} (hw : S.wants ops { dst, op := .call { callee := .value z, args := xs, argTypes := ats }, type := ty, pos, after, guard } = some true) (hd : dOk S.n dst = true)
 (hz : S.opd z = some (.c (.fs f m C))) (hm : ((List.range m).all fun i => immC (C i)) = true) (ha : S.opds xs.toList = some args) (hi : args.all immV = true) (hf : P.funcs[f]? = some fn) (hb : fn.body.isNone = false) (hnm : (fn.name == "runtime.NumGoroutine") = false) (hc : ACalls P f (.ag (cellsS m C) :: args) r)
 (hn : AList P ops rest (([], []) :: acc) (S.eff dst ⟨r, [], []⟩) Q) : AList P ops ({ dst, op := .call { callee := .value z, args := xs, argTypes := ats }, type := ty, pos, after, guard } :: rest) acc S Q :=
 AList.ext [] _ hw hd (fun S1 h1 _ b0 σ a w R => by
  have h2 : S1.opds xs.toList = some args := (opds_congr fun x hx => h1 x (by simp only [Op.operands, Call.operands]; simp; exact .inr (by simpa using hx))).trans ha
  obtain ⟨_, vs, e1, e2, e3⟩ := opd_rep R ((h1 z (by simp [Op.operands, Call.operands])).trans hz)
  have hic : immV (.ag (cellsS m C)) = true := by
   show (cellsS m C).all immC = true
   unfold cellsS
   rw [List.all_map]
   exact hm
  have := hc.at R (vals := .agg vs.toArray :: xs.toList.map a.eval) ⟨repS hm e2 e3, opds_rep R h2⟩ (by rw [List.all_cons, hic, hi]; rfl)
  rw [run_callf f fn hf hb hnm #[.agg vs.toArray] #[] e1 w]
  simp only [Goes]
  rw [show (#[.agg vs.toArray] ++ xs.map a.eval ++ #[] : Array Value) = (.agg vs.toArray :: xs.toList.map a.eval).toArray from Array.ext' (by simp)]
  exact this.mono fun e w' ⟨v, g1, g2, g3⟩ => ⟨v, g1, g2, g3⟩) hn
end ops
section ops
variable {ops : Array Oper} {rest : List Oper} {acc : List (List Nat × List Nat)} {S : St} {Q : List (List Nat × List Nat) → St → Prop} {dst : Option Tmp} {ty : TypeId} {pos : String} {after : Array Edge} {guard : Option (Nat × Bool)}
theorem fix_at {b0 : Base} {σ : Nat → Option Value} {S : St} {a : Act} {w : World} (R : Rel0 b0 σ S a w) {i : Nat} {u : Value} (h : b0.fix i = some u) : σ i = some u := (R.hp.fx i u h).1
theorem AList.callMP {pre : (Nat → Option Value) → Prop} {f : FuncId} {fn : Func} {z : Operand} {cap : List V1} {xs : Array Operand} {ats : Array TypeId} {args args1 : List V1} {r r' : AV} (ids ni : List Nat) (bs hs' nw bs' nw' : List AB) (hw : S.wants ops { dst, op := .call { callee := .value z, args := xs, argTypes := ats }, type := ty, pos, after, guard } = some true) (hd : dOk S.n dst = true)
 (hz : FnV S z f cap) (ha : S.opds xs.toList = some args) (hf : P.funcs[f]? = some fn) (hb : fn.body.isNone = false) (hnm : (fn.name == "runtime.NumGoroutine") = false) (hL : LendOkM S ids [] ids bs)
 (hnd : (nodupB ids && nodupB ni && ni.all (fun i => S.fr i) && Nat.beq bs'.length bs.length && Nat.beq nw'.length ni.length) = true) (hla : LeL (LentV ids []) (args ++ cap) args1) (hr : BackA ids ni r r') (hbk : BackBM ids ni hs' bs') (hnw : BackB ids ni nw nw')
 (hpre : ∀ b0 : Base, S.G b0 → ∀ fx : Nat → Option Value, (∀ k id, ids[k]? = some id → ∀ u, b0.fix id = some u → fx (1000 + k) = some u) → pre fx) (hc : GMP P f pre args1 bs [] (GEq r hs' nw))
 (hn : AList P ops rest ((ids ++ ni, (zipW ids bs' ++ zipW ni nw').map (·.1) ++ ni) :: acc) (S.eff dst ⟨r', zipW ids bs' ++ zipW ni nw', ni⟩) Q) : AList P ops ({ dst, op := .call { callee := .value z, args := xs, argTypes := ats }, type := ty, pos, after, guard } :: rest) acc S Q :=
 AList.cons ids ⟨r', zipW ids bs' ++ zipW ni nw', ni⟩ (LStep.of hw fun S1 hA hr1 hal b0 σ a w R => by
  simp only [Bool.and_eq_true] at hnd
  obtain ⟨⟨⟨⟨n1, n4⟩, n5⟩, n6⟩, n7⟩ := hnd
  have h2 : S1.opds xs.toList = some args := (opds_congr fun x hx => hA.op x (by simp only [Op.operands, Call.operands]; simp; exact .inr (by simpa using hx))).trans ha
  obtain ⟨vs, e1, e2⟩ := (hz.congr (hA.op z (by simp [Op.operands, Call.operands]))).rep R
  have := GMP.atP (dst := dst) (mids := []) hc R (fun fx h => hpre b0 (hA.G ▸ R.gd) fx fun k id hk u hu => (h k id hk).trans (fix_at R hu)) (by rw [hA.n]; exact hd) (RepL.append (opds_rep R h2) e2) hla (lendOkM_congr (fun id hid => hr1 id hid) hL) trivial (by rw [List.append_nil]; exact n1) rfl (Nat.zero_le _) n4 (fun id hid => (hal id hid).trans (List.all_eq_true.1 n5 id hid))
  rw [run_callf f fn hf hb hnm #[] vs.toArray e1 w]
  simp only [Goes]
  rw [show (#[] ++ xs.map a.eval ++ vs.toArray : Array Value) = (xs.toList.map a.eval ++ vs).toArray from Array.ext' (by simp)]
  exact this.mono fun e w' ⟨v, r0, hs0, nw0, g1, ⟨h1, h2, h3⟩, g3⟩ => by
   subst h1 h2 h3
   have := g3 r' bs' nw' hr hbk hnw (Nat.eq_of_beq_eq_true n6) (Nat.eq_of_beq_eq_true n7)
   rw [show (dropL [] : List (Nat × Option AB)) = [] from rfl, List.append_nil] at this
   exact ⟨v, g1, this⟩) hn
theorem ptr_val {b0 : Base} {σ : Nat → Option Value} {S : St} {a : Act} {w : World} (R : Rel0 b0 σ S a w) {q n sz : Nat} {ty : TypeId} {F : Nat → Nat → CV} (hB : S.h q = some ⟨false, n, sz, ty, F⟩) {u : Value} (hu : σ q = some u) (hsz : Nat.blt 1 sz = true) : ∃ b, u = .pointer (some ⟨b, 0, none⟩) := by
 obtain ⟨v, e1, e2⟩ := R.hp.blk q _ hB
 rw [hu] at e1
 cases e1
 rcases e2 with ⟨h, _⟩ | ⟨b, cap, cs, h, _⟩ | ⟨_, _, h, _⟩
 ·cases h
 ·rcases h with ⟨h, _⟩ | ⟨_, h, _⟩
  ·cases h
  ·exact ⟨b, h⟩
 ·have h1 : sz = 1 := h
  have := Nat.blt_eq.mp hsz
  omega
theorem ptr_rep {b0 : Base} {σ : Nat → Option Value} {S : St} {a : Act} {w : World} (R : Rel0 b0 σ S a w) {q n sz : Nat} {ty : TypeId} {F : Nat → Nat → CV} (hB : S.h q = some ⟨false, n, sz, ty, F⟩) {u : Value} (hu : σ q = some u) (hsz : Nat.blt 1 sz = true) : RepV σ (out b0 σ S.h) w (.c (.pt q sz 0 0)) u := by
 obtain ⟨b, rfl⟩ := ptr_val R hB hu hsz
 exact ⟨rfl, _, b, hu, rfl, by simp⟩
theorem AList.callB {f : FuncId} {fn : Func} {z : Operand} {q n0 sz : Nat} {ty0 : TypeId} {F0 : Nat → Nat → CV} {u : Value} {xs : Array Operand} {ats : Array TypeId} {args args1 : List V1} {r r' : AV} (ids ni : List Nat) (bs hs' nw bs' nw' : List AB) (hw : S.wants ops { dst, op := .call { callee := .value z, args := xs, argTypes := ats }, type := ty, pos, after, guard } = some true) (hd : dOk S.n dst = true)
 (hz : S.opd z = some (.c (.p (.func (.func f) #[u] #[])))) (hu : ∀ b, S.G b → b.fix q = some u) (hq : S.h q = some ⟨false, n0, sz, ty0, F0⟩) (hqi : (Nat.blt 1 sz && ids.any (Nat.beq q)) = true)
 (ha : S.opds xs.toList = some args) (hf : P.funcs[f]? = some fn) (hb : fn.body.isNone = false) (hnm : (fn.name == "runtime.NumGoroutine") = false) (hL : LendOkM S ids [] ids bs)
 (hnd : (nodupB ids && nodupB ni && ni.all (fun i => S.fr i) && Nat.beq bs'.length bs.length && Nat.beq nw'.length ni.length) = true) (hla : LeL (LentV ids []) (.c (.pt q sz 0 0) :: args) args1) (hr : BackA ids ni r r') (hbk : BackBM ids ni hs' bs') (hnw : BackB ids ni nw nw')
 (hc : GMCalls P f args1 bs [] r hs' nw)
 (hn : AList P ops rest ((ids ++ ni, (zipW ids bs' ++ zipW ni nw').map (·.1) ++ ni) :: acc) (S.eff dst ⟨r', zipW ids bs' ++ zipW ni nw', ni⟩) Q) : AList P ops ({ dst, op := .call { callee := .value z, args := xs, argTypes := ats }, type := ty, pos, after, guard } :: rest) acc S Q :=
 AList.cons ids ⟨r', zipW ids bs' ++ zipW ni nw', ni⟩ (LStep.of hw fun S1 hA hr1 hal b0 σ a w R => by
  simp only [Bool.and_eq_true] at hnd hqi
  obtain ⟨⟨⟨⟨n1, n4⟩, n5⟩, n6⟩, n7⟩ := hnd
  obtain ⟨x, hx, hx'⟩ := List.any_eq_true.1 hqi.2
  obtain rfl := Nat.eq_of_beq_eq_true hx'
  have h2 : S1.opds xs.toList = some args := (opds_congr fun x hx => hA.op x (by simp only [Op.operands, Call.operands]; simp; exact .inr (by simpa using hx))).trans ha
  have e1 : a.eval z = .func (.func f) #[u] #[] := (opd_rep R ((hA.op z (by simp [Op.operands, Call.operands])).trans hz)).2
  have hp := ptr_rep R ((hr1 q hx).trans hq) (fix_at R (hu b0 (hA.G ▸ R.gd))) hqi.1
  have := GMP.atP (pre := fun _ => True) (dst := dst) (mids := []) (args := .c (.pt q sz 0 0) :: args) (vals := u :: xs.toList.map a.eval) hc R (fun _ _ => trivial) (by rw [hA.n]; exact hd) ⟨hp, opds_rep R h2⟩ hla (lendOkM_congr (fun id hid => hr1 id hid) hL) trivial (by rw [List.append_nil]; exact n1) rfl (Nat.zero_le _) n4 (fun id hid => (hal id hid).trans (List.all_eq_true.1 n5 id hid))
  rw [run_callf f fn hf hb hnm #[u] #[] e1 w]
  simp only [Goes]
  rw [show (#[u] ++ xs.map a.eval ++ #[] : Array Value) = (u :: xs.toList.map a.eval).toArray from Array.ext' (by simp)]
  exact this.mono fun e w' ⟨v, r0, hs0, nw0, g1, ⟨h1, h2, h3⟩, g3⟩ => by
   subst h1 h2 h3
   have := g3 r' bs' nw' hr hbk hnw (Nat.eq_of_beq_eq_true n6) (Nat.eq_of_beq_eq_true n7)
   rw [show (dropL [] : List (Nat × Option AB)) = [] from rfl, List.append_nil] at this
   exact ⟨v, g1, this⟩) hn
end ops
section txt
variable {ops : Array Oper} {rest : List Oper} {S : St} {Q : St → Prop} {dst : Option Tmp} {ty ty1 : TypeId} {pos pos1 : String} {after after1 : Array Edge} {guard guard1 : Option (Nat × Bool)}
abbrev bndV (g : FuncId) (u : Value) : Value := .func (.func g) #[u] #[]
theorem AText.mkCallM {d1 : Tmp} {f g : FuncId} {fn : Func} {q n0 sz k0 : Nat} {ty0 : TypeId} {F0 : Nat → Nat → CV} {x : Operand} {xs : Array Operand} {ats : Array TypeId} {args args1 : Value → List V1} {r r' : AV} (ids ni : List Nat) (bs hs' nw bs' nw' : List AB)
 (hw1 : S.wants ops { dst := some d1, op := .makeFunc (.func g) #[x] #[], type := ty1, pos := pos1, after := after1, guard := guard1 } = some true)
 (hw : (S.eff (some d1) ⟨.c .any, [], []⟩).wants ops { dst, op := .call { callee := .value (.func f), args := xs, argTypes := ats }, type := ty, pos, after, guard } = some true) (hd1 : (dOk S.n (some d1) && dOk S.n dst) = true)
 (hx : S.opd x = some (.c (.pt q sz 0 0))) (hq : S.h q = some ⟨false, n0, sz, ty0, F0⟩) (hsz : Nat.blt 1 sz = true) (hk0 : posOf ids q = some k0)
 (ha : ∀ u, (S.eff (some d1) ⟨.c (.p (bndV g u)), [], []⟩).opds xs.toList = some (args u)) (hf : P.funcs[f]? = some fn) (hb : fn.body.isNone = false) (hnm : (fn.name == "runtime.NumGoroutine") = false) (hL : LendOkM S ids [] ids bs)
 (hnd : (nodupB ids && nodupB ni && ni.all (fun i => S.fr i) && Nat.beq bs'.length bs.length && Nat.beq nw'.length ni.length) = true) (hla : ∀ u, LeL (LentV ids []) (args u) (args1 u)) (hr : BackA ids ni r r') (hbk : BackBM ids ni hs' bs') (hnw : BackB ids ni nw nw')
 (hc : ∀ u, GMP P f (fun fx => fx (1000 + k0) = some u) (args1 u) bs [] (GEq r hs' nw))
 (hn : AText P ops rest ((S.eff (some d1) ⟨.c .any, [], []⟩).eff dst ⟨r', zipW ids bs' ++ zipW ni nw', ni⟩) Q) :
 AText P ops ({ dst := some d1, op := .makeFunc (.func g) #[x] #[], type := ty1, pos := pos1, after := after1, guard := guard1 } :: { dst, op := .call { callee := .value (.func f), args := xs, argTypes := ats }, type := ty, pos, after, guard } :: rest) S Q := ⟨fun rd b0 a w K hR hK => by
 obtain ⟨σ, R0⟩ := hR
 simp only [Bool.and_eq_true] at hd1 hnd
 obtain ⟨hdA, hdB⟩ := hd1
 obtain ⟨⟨⟨⟨n1, n4⟩, n5⟩, n6⟩, n7⟩ := hnd
 obtain ⟨u, hu⟩ : ∃ u, a.eval x = u := ⟨_, rfl⟩
 have hσ : σ q = some u := by
  obtain ⟨_, v, b, e1, e2, e3⟩ := opd_rep R0 hx
  obtain ⟨b', rfl⟩ := ptr_val R0 hq e1 hsz
  cases e2
  rw [e1, ← hu, e3]
  simp
 have hex : (execOp a.eval { dst := some d1, op := .makeFunc (.func g) #[x] #[], type := ty1, pos := pos1, after := after1, guard := guard1 }).run P w = .ok (.value (bndV g u)) w := by
  simp [execOp, Instr.makeFunc, hu]
 unfold wpListIn
 rw [if_pos (wants_rep R0 hw1)]
 refine GoesA.wpIn (K0 := fun v w' => v = bndV g u ∧ w' = w) (.inl (by rw [hex]; exact ⟨rfl, rfl⟩)) fun v w' ⟨e1, e2⟩ => ?_
 subst e1 e2
 have R1 : Rel0 b0 σ (S.eff (some d1) ⟨.c .any, [], []⟩) (a.put (some d1) (bndV g u)) w' := R0.val hdA (Ext.refl w') fun _ => ⟨rfl, trivial⟩
 have R2 : Rel0 b0 σ (S.eff (some d1) ⟨.c (.p (bndV g u)), [], []⟩) (a.put (some d1) (bndV g u)) w' := R0.val hdA (Ext.refl w') fun _ => ⟨rfl, rfl⟩
 unfold wpListIn
 rw [if_pos (wants_rep R1 hw)]
 refine ⟨fun _ _ => trivial, ?_⟩
 have hfr1 : ∀ id ∈ ni, (S.eff (some d1) ⟨.c .any, [], []⟩).fr id = true := fun id hid => by
  have := List.all_eq_true.1 n5 id hid
  simp [St.eff, this]
 have := GMP.atP (dst := dst) (ids := ids) (mids := []) (ni := ni) (vals := xs.toList.map (a.put (some d1) (bndV g u)).eval) (hc u) R1 (fun fx h => (h k0 q (posOf_at hk0)).trans hσ) hdB (opds_rep R2 (ha u)) (hla u) (lendOkM_congr (S := S) (S1 := S.eff (some d1) ⟨.c .any, [], []⟩) (fun _ _ => rfl) hL) trivial (by rw [List.append_nil]; exact n1) rfl (Nat.zero_le _) n4 hfr1
 rw [Oper.semAt_eq _ _ _ (fun c hc => by cases hc), run_callf f fn hf hb hnm #[] #[] rfl w']
 rw [Oper.uponIn_enter]
 refine ⟨fun hd => (by cases hd), ?_⟩
 rw [show (#[] ++ xs.map (a.put (some d1) (bndV g u)).eval ++ #[] : Array Value) = (xs.toList.map (a.put (some d1) (bndV g u)).eval).toArray from Array.ext' (by simp)]
 exact (wide_fnc rd).calls (this.mono fun e w' ⟨v, r0, hs0, nw0, g1, ⟨h1, h2, h3⟩, g3⟩ => by
  subst g1 h1 h2 h3
  have := g3 r' bs' nw' hr hbk hnw (Nat.eq_of_beq_eq_true n6) (Nat.eq_of_beq_eq_true n7)
  rw [show (dropL [] : List (Nat × Option AB)) = [] from rfl, List.append_nil] at this
  exact hn.get rd b0 _ _ K this hK)⟩
end txt
end
end Go.AV
end
section
namespace Go.Proofs.Ytekkldgmjdllbaa
open Go.RowKit Go.Flow Go.AV Go.Plain
abbrev ctB (ra rb : Nat) (ta tb ma mb st w : Int) : AB := ⟨false, 1, 8, 161, lF [.ow ra, .ow rb, iC ta, iC tb, iC ma, iC mb, iC st, iC w]⟩
abbrev cwB (n : Nat) (c : Nat → Int) : AB := ⟨true, n, 1, 3, iF c⟩
abbrev ctL (ta tb ma mb st w : Int) (n : Nat) (ca cb : Nat → Int) : List AB := [ctB 1001 1002 ta tb ma mb st w, cwB n ca, cwB n cb]
theorem ct_lend {S : St} {p q r n : Nat} {ta tb ma mb st w : Int} {ca cb : Nat → Int} {ids mids : List Nat} (i0 i1 : Nat) (hn : 0 < n) (hp : S.h p = some (ctB q r ta tb ma mb st w) := by rfl) (hq : S.h q = some (cwB n ca) := by rfl) (hr : S.h r = some (cwB n cb) := by rfl) (h1 : posOf ids q = some i0 := by rfl) (h2 : posOf ids r = some i1 := by rfl) {l : List Nat} {bs : List AB} (h : LendOkM S ids mids l bs) :
 LendOkM S ids mids (p :: q :: r :: l) (ctB (1000 + i0) (1000 + i1) ta tb ma mb st w :: cwB n ca :: cwB n cb :: bs) :=
 ⟨⟨_, hp, (fun h => by cases h), fun k hk j hj => by
   obtain rfl : k = 0 := Nat.lt_one_iff.mp hk
   match j, hj with
   | 0, _ => exact .b (.ow _ _ h1)
   | 1, _ => exact .b (.ow _ _ h2)
   | 2, _ => exact .b (.imm _ rfl)
   | 3, _ => exact .b (.imm _ rfl)
   | 4, _ => exact .b (.imm _ rfl)
   | 5, _ => exact .b (.imm _ rfl)
   | 6, _ => exact .b (.imm _ rfl)
   | 7, _ => exact .b (.imm _ rfl)⟩, ⟨_, hq, fun _ => hn, fun _ _ _ _ => .b (.imm _ rfl)⟩, ⟨_, hr, fun _ => hn, fun _ _ _ _ => .b (.imm _ rfl)⟩, h⟩
theorem ct_back {q r n : Nat} {ta tb ma mb st w : Int} {ca cb : Nat → Int} {ids ni : List Nat} (i0 i1 : Nat) (h1 : posOf ids q = some i0 := by rfl) (h2 : posOf ids r = some i1 := by rfl) {l bs : List AB} (h : BackBM ids ni l bs) :
 BackBM ids ni (ctB (1000 + i0) (1000 + i1) ta tb ma mb st w :: cwB n ca :: cwB n cb :: l) (ctB q r ta tb ma mb st w :: cwB n ca :: cwB n cb :: bs) :=
 ⟨⟨_, rfl, fun k hk j hj => by
   obtain rfl : k = 0 := Nat.lt_one_iff.mp hk
   match j, hj with
   | 0, _ => exact .b (.ow _ _ h1)
   | 1, _ => exact .b (.ow _ _ h2)
   | 2, _ => exact .b (.imm _ rfl)
   | 3, _ => exact .b (.imm _ rfl)
   | 4, _ => exact .b (.imm _ rfl)
   | 5, _ => exact .b (.imm _ rfl)
   | 6, _ => exact .b (.imm _ rfl)
   | 7, _ => exact .b (.imm _ rfl)⟩, ⟨_, rfl, fun _ _ _ _ => .b (.imm _ rfl)⟩, ⟨_, rfl, fun _ _ _ _ => .b (.imm _ rfl)⟩, h⟩
theorem ct_new {q r n : Nat} {ta tb ma mb st w : Int} {ca cb : Nat → Int} {ids ni : List Nat} (i0 i1 : Nat) (h1 : posOf ni q = some i0 := by rfl) (h2 : posOf ni r = some i1 := by rfl) {l bs : List AB} (h : BackB ids ni l bs) :
 BackB ids ni (ctB (900 + i0) (900 + i1) ta tb ma mb st w :: cwB n ca :: cwB n cb :: l) (ctB q r ta tb ma mb st w :: cwB n ca :: cwB n cb :: bs) :=
 ⟨⟨_, rfl, fun k hk j hj => by
   obtain rfl : k = 0 := Nat.lt_one_iff.mp hk
   match j, hj with
   | 0, _ => exact .owN _ _ h1
   | 1, _ => exact .owN _ _ h2
   | 2, _ => exact .imm _ rfl
   | 3, _ => exact .imm _ rfl
   | 4, _ => exact .imm _ rfl
   | 5, _ => exact .imm _ rfl
   | 6, _ => exact .imm _ rfl
   | 7, _ => exact .imm _ rfl⟩, ⟨_, rfl, fun _ _ _ _ => .imm _ rfl⟩, ⟨_, rfl, fun _ _ _ _ => .imm _ rfl⟩, h⟩
set_option maxHeartbeats 1000000 in
set_option maxRecDepth 100000 in
theorem newCount_M (s t : Sd) (st : Int) (n : Nat) (hn : s.o.W + 8 = (n : Int)) (hn2 : n ≤ 104) : GMCalls Try.prog 102 [.ag (sdC s), .ag (sdC t), .c (iC st)] [] [] (.c (.pt 900 8 0 0)) [] [ctB 901 902 0 0 s.mo t.mo st n, cwB n fun _ => 0, cwB n fun _ => 0] := by
 refine gm_at Try.func102 rfl rfl Try.ntmps102 rfl ?_
 repeat (first
  | refine uA ?_
  | refine uB ?_
  | refine AWp.ret ?_
  | (refine rG 0 ?_
     (iterate 2 refine qr5 aQ ?_)
     refine kC ?_
     refine aB ?_)
  | (refine rG 1 ?_
     (iterate 2 refine kD ?_)
     refine kE ?_
     refine qr4w2 aL ?_
     refine kC ?_
     refine aB ?_)
  | (refine AWp.draw (id := 2) mixed ?_; refine kA ?_; refine qr9e2o2 (AList.makeSl (n := n) tyOk) ?_; refine kA ?_; refine qr9e2o2 (AList.makeSl (n := n) tyOk) ?_; refine kD ?_; refine kE ?_; refine kD ?_; refine kE ?_; refine qr8 (AList.buildArr tyOk) ?_; (iterate 2 refine kA ?_); refine qr8 (aX tyOk) ?_; refine qr5 aQ ?_; refine kC ?_; refine aB ⟨by kernel_rfl, ?_⟩))
 refine ⟨mkSt 25 [(6, .c (.pt 900 8 0 0))] [(900, ctB 901 902 0 0 s.mo t.mo st n), (901, cwB n fun _ => 0), (902, cwB n fun _ => 0)] [900, 901, 902], [], _, [], [ctB 901 902 0 0 s.mo t.mo st n, cwB n fun _ => 0, cwB n fun _ => 0], ⟨rfl, rfl, rfl⟩, rfl, Wk.mk [(900, some 24), (901, some 13), (902, some 15)] rfl rfl rfl ?_ ?_, rfl, rfl, GRets.one (x := .c _) (GRes.tmp rfl)⟩
 ·exact allT
 ·exact ⟨HeapOk.box rfl rfl ⟨LeC.ow _ _ rfl, LeC.ow _ _ rfl, LeC.int rfl, LeC.int rfl, LeC.int rfl, LeC.int rfl, LeC.int rfl, LeC.int hn, trivial⟩ rfl, HeapOk.row rfl rfl rfl (fun i _ => cell1 ⟨rfl, rfl⟩), HeapOk.row rfl rfl rfl (fun i _ => cell1 ⟨rfl, rfl⟩), trivial⟩
def upD (c : Nat → Int) (k : Nat) (d : Int) : Nat → Int := fun i => if i = k then c i + d else c i
theorem iF_up (c : Nat → Int) (k : Nat) (d : Int) (n : Nat) : ∀ i, i < n → ∀ j, j < 1 → setF (iF c) k 0 1 [iC (c k + d)] i j = iF (upD c k d) i j ∧ immC (setF (iF c) k 0 1 [iC (c k + d)] i j) = true :=
 iF_set (if_pos rfl) fun _ h => if_neg h
set_option maxHeartbeats 1000000 in
set_option maxRecDepth 100000 in
theorem addA_M (ta tb ma mb st w d : Int) (n k : Nat) (ca cb : Nat → Int) (hk : k < n) (hn : n ≤ 200) (h1 : -100000 ≤ ca k ∧ ca k ≤ 100000) (h2 : -100000 ≤ cb k ∧ cb k ≤ 100000) (h3 : -100000 ≤ ta ∧ ta ≤ 100000) (h4 : -100000 ≤ tb ∧ tb ≤ 100000) (h5 : -10 ≤ d ∧ d ≤ 10) :
 GMCalls Try.prog 53 [.c (.pt 1000 8 0 0), .c (bC false), .c (iC k), .c (iC d)] (ctL ta tb ma mb st w n ca cb) [] (.tu []) (ctL (ta + d) (tb) ma mb st w n (upD ca k d) (cb)) [] := by
 refine gm_at Try.func53 rfl rfl Try.ntmps53 rfl ?_
 repeat (first
  | refine uA ?_
  | refine uB ?_
  | refine kU ?_
  | (refine rG 0 ?_
     refine kA ?_
     refine aB ?_)
  | (refine rG 3 ?_
     refine kA ?_
     refine AList.nilPt rfl rfl rfl rfl ?_
     refine kD ?_
     refine kE ?_
     refine kA ?_
     refine qr10eo (AList.idxOw (k := k) tyOk) ?_
     refine kE ?_
     refine kA ?_
     refine qr4w2 aL ?_
     refine qr10eo (AList.idxOw (k := k) tyOk) ?_
     refine kI ?_
     refine aB ?_)
  | (refine AWp.draw (id := 4) mixed ?_; refine kA ?_; refine AList.nilPt rfl rfl rfl rfl ?_; refine kD ?_; refine qr8o (aU tyOk) ?_; refine kE ?_; refine kA ?_; refine qr4w2 aL ?_; refine AList.nilPt rfl rfl rfl rfl ?_; refine kD ?_; refine qr8o (aU tyOk) ?_; refine kI ?_; refine aB ⟨by kernel_rfl, ?_⟩))
 refine ⟨mkL 49 3 [] [(1000, ctB 1001 1002 (ta + d) (tb) ma mb st w), (1001, cwB n (upD ca k d)), (1002, cwB n (cb))] [], [], _, ctL (ta + d) (tb) ma mb st w n (upD ca k d) (cb), [], ⟨rfl, rfl, rfl⟩, rfl, Wk.mkL [] rfl rfl rfl rfl rfl trivial ?_, rfl, rfl, GRets.no⟩
 exact ⟨cnA, HeapOk.lentRow rfl rfl (iF_up ca k d n), lrw, trivial⟩
set_option maxHeartbeats 1000000 in
set_option maxRecDepth 100000 in
theorem addB_M (ta tb ma mb st w d : Int) (n k : Nat) (ca cb : Nat → Int) (hk : k < n) (hn : n ≤ 200) (h1 : -100000 ≤ ca k ∧ ca k ≤ 100000) (h2 : -100000 ≤ cb k ∧ cb k ≤ 100000) (h3 : -100000 ≤ ta ∧ ta ≤ 100000) (h4 : -100000 ≤ tb ∧ tb ≤ 100000) (h5 : -10 ≤ d ∧ d ≤ 10) :
 GMCalls Try.prog 53 [.c (.pt 1000 8 0 0), .c (bC true), .c (iC k), .c (iC d)] (ctL ta tb ma mb st w n ca cb) [] (.tu []) (ctL (ta) (tb + d) ma mb st w n (ca) (upD cb k d)) [] := by
 refine gm_at Try.func53 rfl rfl Try.ntmps53 rfl ?_
 repeat (first
  | refine uA ?_
  | refine uB ?_
  | refine kT ?_
  | (refine rG 0 ?_
     refine kA ?_
     refine aB ?_)
  | (refine rG 1 ?_
     refine kA ?_
     refine AList.nilPt rfl rfl rfl rfl ?_
     refine kD ?_
     refine kE ?_
     refine kA ?_
     refine qr10eo (AList.idxOw (k := k) tyOk) ?_
     refine kE ?_
     refine kA ?_
     refine qr4w2 aL ?_
     refine qr10eo (AList.idxOw (k := k) tyOk) ?_
     refine kI ?_
     refine aB ?_)
  | (refine AWp.draw (id := 2) mixed ?_; refine kA ?_; refine AList.nilPt rfl rfl rfl rfl ?_; refine kD ?_; refine qr8o (aU tyOk) ?_; refine kE ?_; refine kA ?_; refine qr4w2 aL ?_; refine AList.nilPt rfl rfl rfl rfl ?_; refine kD ?_; refine qr8o (aU tyOk) ?_; refine kI ?_; refine aB ⟨by kernel_rfl, ?_⟩))
 refine ⟨mkL 49 3 [] [(1000, ctB 1001 1002 (ta) (tb + d) ma mb st w), (1001, cwB n (ca)), (1002, cwB n (upD cb k d))] [], [], _, ctL (ta) (tb + d) ma mb st w n (ca) (upD cb k d), [], ⟨rfl, rfl, rfl⟩, rfl, Wk.mkL [] rfl rfl rfl rfl rfl trivial ?_, rfl, rfl, GRets.no⟩
 exact ⟨cnA, lrw, HeapOk.lentRow rfl rfl (iF_up cb k d n), trivial⟩
set_option maxHeartbeats 2000000 in
set_option maxRecDepth 100000 in
theorem open_M (ta tb ma mb w : Int) (n f m : Nat) (ca cb : Nat → Int) (hf : f + m ≤ n) (hn : n ≤ 200) (hm : m ≤ 16) (h1 : ∀ i, 0 ≤ ca i ∧ ca i ≤ 10000) (h2 : ∀ i, 0 ≤ cb i ∧ cb i ≤ 10000) (h3 : -100000 ≤ ta ∧ ta ≤ 100000) (h4 : -100000 ≤ tb ∧ tb ≤ 100000) :
 GMCalls Try.prog 104 [.c (.pt 1000 8 0 0), .c (iC f)] (ctL ta tb ma mb m w n ca cb) [] (.c (bC (decide (ta - wnF ca f m ≤ ma) && decide (tb - wnF cb f m ≤ mb)))) (ctL ta tb ma mb m w n ca cb) [] := by
 obtain ⟨st, hst⟩ : ∃ st : Int, st = m := ⟨_, rfl⟩
 rw [← hst]
 refine gm_at Try.func104 rfl rfl Try.ntmps104 rfl ?_
 repeat (first
  | refine uA ?_
  | refine uB ?_
  | refine uC ?_
  | (refine rG 0 ?_
     refine kC ?_
     refine aB ?_)
  | (refine AWp.draw (id := 1) mixed ?_; refine kA ?_; refine AList.nilPt rfl rfl rfl rfl ?_; refine kD ?_; refine qr8o (aU tyOk) ?_; refine kE ?_; refine kA ?_; refine AList.nilPt rfl rfl rfl rfl ?_; refine kD ?_; refine qr8o (aU tyOk) ?_; refine kE ?_; (iterate 2 refine kC ?_); refine aB ⟨by kernel_rfl, ?_⟩)
  | (refine rG 2 ?_
     refine kA ?_
     refine kC ?_
     refine aB ?_))
 refine AWp.round (fun i : Nat =>
  mkL 63 3 [(0, .c (.pt 1000 8 0 0)), (1, .c (iC f)), (5, .c (iC (ta - wnF ca f i))), (6, .c (iC (tb - wnF cb f i))), (7, .c (iC ((f : Int) + i)))] [(1000, ctB 1001 1002 ta tb ma mb st w), (1001, cwB n ca), (1002, cwB n cb)] []
  ) (fun i => i ≤ m) (fun i => m - i) 0 (Nat.zero_le _) ?_ (fun i hi => ?_)
 ·refine Wk.mkL [] rfl rfl rfl rfl rfl ?_ ?_
  ·rw [show wnF ca f 0 = 0 from rfl, show wnF cb f 0 = 0 from rfl, Int.sub_zero, Int.sub_zero]
   repeat (first | exact trivial | refine ⟨⟨_, rfl, by first | exact LeA.c (LeC.ptB _ _ _ _ rfl) | exact leT⟩, ?_⟩)
  ·exact ⟨
   cnA, lrw, lrw
   , trivial⟩
 have b1 := wnF_bd h1 f i
 have b2 := wnF_bd h2 f i
 by_cases hil : i < m
 ·have hil' : (f : Int) + i < (f : Int) + st := by omega
  have e1 : wnF ca f (i + 1) = wnF ca f i + ca (f + i) := rfl
  have e2 : wnF cb f (i + 1) = wnF cb f i + cb (f + i) := rfl
  have c1 := h1 (f + i)
  have c2 := h2 (f + i)
  repeat (first
   | refine uA ?_
   | refine uB ?_
   | refine uC ?_
   | refine uG ?_
   | refine uD ?_
   | refine kT ?_
   | (refine rG 3 ?_
      (iterate 3 refine kA ?_)
      refine AList.nilPt rfl rfl rfl rfl ?_
      refine kD ?_
      refine kE ?_
      refine qr4w2 aL ?_
      refine qr5t aK ?_
      refine aB ?_)
   | (refine rG 4 ?_
      refine kA ?_
      refine qr4w2 aL ?_
      refine kC ?_
      refine aB ?_)
   | (refine rG 5 ?_
      (iterate 2 refine kA ?_)
      refine AList.nilPt rfl rfl rfl rfl ?_
      refine kD ?_
      refine kE ?_
      refine kA ?_
      refine qr10eo (AList.idxOw (k := f + i) tyOk) ?_
      refine kE ?_
      refine qr4w2 AList.sub ?_
      refine kC ?_
      refine aB ?_)
   | (refine rG 6 ?_
      (iterate 2 refine kA ?_)
      refine AList.nilPt rfl rfl rfl rfl ?_
      refine kD ?_
      refine kE ?_
      refine kA ?_
      refine qr10eo (AList.idxOw (k := f + i) tyOk) ?_
      refine kE ?_
      refine qr4w2 AList.sub ?_
      refine kC ?_
      refine aB ?_))
  refine ⟨i + 1, hil, Wk.mkL [] rfl rfl rfl rfl rfl ?_ ?_, by omega⟩
  ·rw [e1, e2]
   repeat (first | exact trivial | refine ⟨⟨_, rfl, by first | exact LeA.c (LeC.ptB _ _ _ _ rfl) | exact leT⟩, ?_⟩)
  ·exact ⟨
   cnA, lrw, lrw
   , trivial⟩
 have hil' : ¬ (f : Int) + i < (f : Int) + st := by omega
 obtain rfl : i = m := by omega
 by_cases g1 : ta - wnF ca f i ≤ ma
 ·rw [decide_eq_true g1, Bool.true_and]
  by_cases g2 : tb - wnF cb f i ≤ mb
  ·rw [decide_eq_true g2]
   repeat (first
    | refine uA ?_
    | refine uB ?_
    | refine uH ?_
    | refine AWp.ret ?_
    | refine kU ?_
    | (refine rG 3 ?_
       (iterate 3 refine kA ?_)
       refine AList.nilPt rfl rfl rfl rfl ?_
       refine kD ?_
       refine kE ?_
       refine qr4w2 aL ?_
       refine qr5f aJ ?_
       refine aB ?_)
    | (refine rG 7 ?_
       (iterate 2 refine kA ?_)
       refine AList.nilPt rfl rfl rfl rfl ?_
       refine kD ?_
       refine qr8o (aU tyOk) ?_
       refine kE ?_
       refine qr5t aK ?_
       (iterate 3 refine kA ?_)
       refine AList.nilPt rfl rfl rfl rfl ?_
       refine kD ?_
       refine qr8o (aU tyOk) ?_
       refine kE ?_
       refine qr5t aK ?_
       refine qr4 aS ?_
       refine kC ?_
       refine aB ?_))
   refine ⟨mkL 63 3 [(4, .c (bC (true)))] [(1000, ctB 1001 1002 ta tb ma mb st w), (1001, cwB n ca), (1002, cwB n cb)] [], [], _, ctL ta tb ma mb st w n ca cb, [], ⟨rfl, rfl, rfl⟩, rfl, Wk.mkL [] rfl rfl rfl rfl rfl ?_ ?_, rfl, rfl, GRets.one (x := .c _) (GRes.tmp rfl)⟩
   ·exact allT
   ·exact ⟨
    cnA, lrw, lrw
    , trivial⟩
  ·rw [decide_eq_false g2]
   repeat (first
    | refine uA ?_
    | refine uB ?_
    | refine uH ?_
    | refine AWp.ret ?_
    | refine kU ?_
    | (refine rG 3 ?_
       (iterate 3 refine kA ?_)
       refine AList.nilPt rfl rfl rfl rfl ?_
       refine kD ?_
       refine kE ?_
       refine qr4w2 aL ?_
       refine qr5f aJ ?_
       refine aB ?_)
    | (refine rG 7 ?_
       (iterate 2 refine kA ?_)
       refine AList.nilPt rfl rfl rfl rfl ?_
       refine kD ?_
       refine qr8o (aU tyOk) ?_
       refine kE ?_
       refine qr5t aK ?_
       (iterate 3 refine kA ?_)
       refine AList.nilPt rfl rfl rfl rfl ?_
       refine kD ?_
       refine qr8o (aU tyOk) ?_
       refine kE ?_
       refine qr5f aJ ?_
       refine qr4 aS ?_
       refine kC ?_
       refine aB ?_))
   refine ⟨mkL 63 3 [(4, .c (bC (false)))] [(1000, ctB 1001 1002 ta tb ma mb st w), (1001, cwB n ca), (1002, cwB n cb)] [], [], _, ctL ta tb ma mb st w n ca cb, [], ⟨rfl, rfl, rfl⟩, rfl, Wk.mkL [] rfl rfl rfl rfl rfl ?_ ?_, rfl, rfl, GRets.one (x := .c _) (GRes.tmp rfl)⟩
   ·exact allT
   ·exact ⟨
    cnA, lrw, lrw
    , trivial⟩
 ·rw [decide_eq_false g1, Bool.false_and]
  repeat (first
   | refine uA ?_
   | refine uB ?_
   | refine uH ?_
   | refine AWp.ret ?_
   | refine kU ?_
   | (refine rG 3 ?_
      (iterate 3 refine kA ?_)
      refine AList.nilPt rfl rfl rfl rfl ?_
      refine kD ?_
      refine kE ?_
      refine qr4w2 aL ?_
      refine qr5f aJ ?_
      refine aB ?_)
   | (refine rG 7 ?_
      (iterate 2 refine kA ?_)
      refine AList.nilPt rfl rfl rfl rfl ?_
      refine kD ?_
      refine qr8o (aU tyOk) ?_
      refine kE ?_
      refine qr5f aJ ?_
      refine kA ?_
      (iterate 7 refine qr2 aG ?_)
      refine qr4 aR ?_
      refine kC ?_
      refine aB ?_))
  refine ⟨mkL 63 3 [(4, .c (bC (false)))] [(1000, ctB 1001 1002 ta tb ma mb st w), (1001, cwB n ca), (1002, cwB n cb)] [], [], _, ctL ta tb ma mb st w n ca cb, [], ⟨rfl, rfl, rfl⟩, rfl, Wk.mkL [] rfl rfl rfl rfl rfl ?_ ?_, rfl, rfl, GRets.one (x := .c _) (GRes.tmp rfl)⟩
  ·exact allT
  ·exact ⟨
   cnA, lrw, lrw
   , trivial⟩
abbrev natL (M : Nat) : CV := .ls M 1 (iF fun k => (k : Int))
abbrev opnV (u : Value) : Value := bndV 104 u
def OpenOk (ta tb ma mb st w : Int) (n : Nat) (ca cb : Nat → Int) (M : Nat) (p : Nat → Bool) : Prop :=
 0 < n ∧ M ≤ 200 ∧ ∀ f, f < M → GMCalls Try.prog 104 [.c (.pt 1000 8 0 0), .c (iC f)] (ctL ta tb ma mb st w n ca cb) [] (.c (bC (p f))) (ctL ta tb ma mb st w n ca cb) []
set_option maxHeartbeats 1000000 in
set_option maxRecDepth 100000 in
theorem ixHit_M {ta tb ma mb st w : Int} {n M : Nat} {ca cb : Nat → Int} {p : Nat → Bool} (ho : OpenOk ta tb ma mb st w n ca cb M p) (q : Nat) (hq : q < M) (h1 : p q = true) (h2 : ∀ j, j < q → p j = false) (u : Value) :
 GMP Try.prog 136 (fun fx => fx 1000 = some u) [.c (natL M), .c (.p (opnV u))] (ctL ta tb ma mb st w n ca cb) [] (GEq (.c (iC q)) (ctL ta tb ma mb st w n ca cb) []) := by
 obtain ⟨hn0, hM, hop⟩ := ho
 refine gmp_at (pre := fun fx => fx 1000 = some u) Try.func136 rfl rfl Try.ntmps136 rfl ?_
 repeat (first
  | refine uA ?_
  | refine uB ?_
  | refine uC ?_
  | (refine rG 0 ?_
     refine kC ?_
     refine aB ?_)
  | (refine rG 1 ?_
     refine kA ?_
     refine qr5 (aO tyOk) ?_
     refine kA ?_
     refine aB ?_))
 refine AWp.round (fun k : Nat =>
  mkG (preG fun fx => fx 1000 = some u) 0 false 19 3 [(0, .c (natL M)), (1, .c (.p (opnV u))), (7, .c (iC M)), (8, .c (iC (k : Nat)))] [(1000, ctB 1001 1002 ta tb ma mb st w), (1001, cwB n ca), (1002, cwB n cb)] []
  ) (fun k => k ≤ M ∧ ∀ j, j < k → p j = false) (fun k => M - k) 0 ⟨Nat.zero_le _, fun _ h => absurd h (Nat.not_lt_zero _)⟩ ?_ (fun k hk => ?_)
 ·refine Wk.mkG [] rfl rfl rfl rfl rfl ?_ ?_ rfl rfl (fun _ h => h)
  ·exact allT
  ·exact ⟨
   cnA, lrw, lrw
   , trivial⟩
 obtain ⟨hk, hno⟩ := hk
 have hkl : k < M := by
  rcases Nat.lt_or_ge k M with h | h
  ·exact h
  ·have := hno q (by omega)
   rw [h1] at this
   cases this
 have hkl' : (k : Int) < M := by omega
 have hct := hop k hkl
 cases hv : p k with
 | true =>
   rw [hv] at hct
   obtain rfl : k = q := by
    rcases Nat.lt_trichotomy k q with h | h | h
    ·rw [h2 k h] at hv; cases hv
    ·exact h
    ·rw [hno q h] at h1; cases h1
   repeat (first
    | refine uA ?_
    | refine uB ?_
    | refine uC ?_
    | refine uG ?_
    | refine AWp.ret ?_
    | refine thenA_r ?_
    | refine uE ?_
    | refine kT ?_
    | (refine rG 2 ?_
       refine qr5t aK ?_
       refine aB ?_)
    | (refine rG 3 ?_
       refine kA ?_
       refine kC ?_
       refine aB ?_)
    | (refine rG 4 ?_
       (iterate 3 refine kA ?_)
       refine qr8eo2 (aP (k := k) tyOk) ?_
       refine qr5o (aV tyOk) ?_
       refine AList.callB [1000, 1001, 1002] [] (ctL ta tb ma mb st w n ca cb) (ctL ta tb ma mb st w n ca cb) [] (ctL ta tb ma mb st w n ca cb) [] rfl rfl rfl (fun _ h => h.2) rfl rfl rfl Try.func104 rfl (by kernel_rfl) (ct_lend 1 2 hn0 (h := trivial)) rfl (by exact ⟨.c (.b (.pt 1000 0 8 0 0 rfl)), .c (.b (.imm _ rfl)), trivial⟩) (.c (.imm _ rfl)) (ct_back 1 2 (h := trivial)) trivial (hct) ?_
       refine aB ?_)
    | (refine rG 5 ?_
       refine kA ?_
       refine kC ?_
       refine aB ?_))
   refine ⟨mkL 19 3 [(4, .c (iC ((k : Nat))))] [(1000, ctB 1001 1002 ta tb ma mb st w), (1001, cwB n ca), (1002, cwB n cb)] [], [], _, ctL ta tb ma mb st w n ca cb, [], ⟨rfl, rfl, rfl⟩, rfl, Wk.mkL [] rfl rfl rfl rfl rfl ?_ ?_ rfl rfl (fun _ h => h.1), rfl, rfl, GRets.one (x := .c _) (GRes.tmp rfl)⟩
   ·exact allT
   ·exact ⟨
    cnA, lrw, lrw
    , trivial⟩
 | false =>
   rw [hv] at hct
   repeat (first
    | refine uA ?_
    | refine uB ?_
    | refine uC ?_
    | refine uG ?_
    | refine uD ?_
    | refine kT ?_
    | refine kU ?_
    | (refine rG 2 ?_
       refine qr5t aK ?_
       refine aB ?_)
    | (refine rG 3 ?_
       refine kA ?_
       refine kC ?_
       refine aB ?_)
    | (refine rG 4 ?_
       (iterate 3 refine kA ?_)
       refine qr8eo2 (aP (k := k) tyOk) ?_
       refine qr5o (aV tyOk) ?_
       refine AList.callB [1000, 1001, 1002] [] (ctL ta tb ma mb st w n ca cb) (ctL ta tb ma mb st w n ca cb) [] (ctL ta tb ma mb st w n ca cb) [] rfl rfl rfl (fun _ h => h.2) rfl rfl rfl Try.func104 rfl (by kernel_rfl) (ct_lend 1 2 hn0 (h := trivial)) rfl (by exact ⟨.c (.b (.pt 1000 0 8 0 0 rfl)), .c (.b (.imm _ rfl)), trivial⟩) (.c (.imm _ rfl)) (ct_back 1 2 (h := trivial)) trivial (hct) ?_
       refine aB ?_)
    | (refine rG 6 ?_
       refine qr4w2 aL ?_
       refine kA ?_
       refine aB ?_))
   refine ⟨k + 1, ⟨hkl, fun j hj => ?_⟩, Wk.mkG [] rfl rfl rfl rfl rfl ?_ ?_ rfl rfl (fun _ h => h), by omega⟩
   ·by_cases e : j = k
    ·rw [e]; exact hv
    ·exact hno j (by omega)
   ·exact allT
   ·exact ⟨
    cnA, lrw, lrw
    , trivial⟩
set_option maxHeartbeats 1000000 in
set_option maxRecDepth 100000 in
theorem ixNo_M {ta tb ma mb st w : Int} {n M : Nat} {ca cb : Nat → Int} {p : Nat → Bool} (ho : OpenOk ta tb ma mb st w n ca cb M p) (h2 : ∀ j, j < M → p j = false) (u : Value) :
 GMP Try.prog 136 (fun fx => fx 1000 = some u) [.c (natL M), .c (.p (opnV u))] (ctL ta tb ma mb st w n ca cb) [] (GEq (.c (iC (-1))) (ctL ta tb ma mb st w n ca cb) []) := by
 obtain ⟨hn0, hM, hop⟩ := ho
 refine gmp_at (pre := fun fx => fx 1000 = some u) Try.func136 rfl rfl Try.ntmps136 rfl ?_
 repeat (first
  | refine uA ?_
  | refine uB ?_
  | refine uC ?_
  | (refine rG 0 ?_
     refine kC ?_
     refine aB ?_)
  | (refine rG 1 ?_
     refine kA ?_
     refine qr5 (aO tyOk) ?_
     refine kA ?_
     refine aB ?_))
 refine AWp.round (fun k : Nat =>
  mkG (preG fun fx => fx 1000 = some u) 0 false 19 3 [(0, .c (natL M)), (1, .c (.p (opnV u))), (7, .c (iC M)), (8, .c (iC (k : Nat)))] [(1000, ctB 1001 1002 ta tb ma mb st w), (1001, cwB n ca), (1002, cwB n cb)] []
  ) (fun k => k ≤ M ∧ ∀ j, j < k → p j = false) (fun k => M - k) 0 ⟨Nat.zero_le _, fun _ h => absurd h (Nat.not_lt_zero _)⟩ ?_ (fun k hk => ?_)
 ·refine Wk.mkG [] rfl rfl rfl rfl rfl ?_ ?_ rfl rfl (fun _ h => h)
  ·exact allT
  ·exact ⟨
   cnA, lrw, lrw
   , trivial⟩
 obtain ⟨hk, hno⟩ := hk
 by_cases hkl : k < M
 ·have hkl' : (k : Int) < M := by omega
  have hct := hop k hkl
  have hv := h2 k hkl
  rw [hv] at hct
  repeat (first
   | refine uA ?_
   | refine uB ?_
   | refine uC ?_
   | refine uG ?_
   | refine uD ?_
   | refine kT ?_
   | refine kU ?_
   | (refine rG 2 ?_
      refine qr5t aK ?_
      refine aB ?_)
   | (refine rG 3 ?_
      refine kA ?_
      refine kC ?_
      refine aB ?_)
   | (refine rG 4 ?_
      (iterate 3 refine kA ?_)
      refine qr8eo2 (aP (k := k) tyOk) ?_
      refine qr5o (aV tyOk) ?_
      refine AList.callB [1000, 1001, 1002] [] (ctL ta tb ma mb st w n ca cb) (ctL ta tb ma mb st w n ca cb) [] (ctL ta tb ma mb st w n ca cb) [] rfl rfl rfl (fun _ h => h.2) rfl rfl rfl Try.func104 rfl (by kernel_rfl) (ct_lend 1 2 hn0 (h := trivial)) rfl (by exact ⟨.c (.b (.pt 1000 0 8 0 0 rfl)), .c (.b (.imm _ rfl)), trivial⟩) (.c (.imm _ rfl)) (ct_back 1 2 (h := trivial)) trivial (hct) ?_
      refine aB ?_)
   | (refine rG 6 ?_
      refine qr4w2 aL ?_
      refine kA ?_
      refine aB ?_))
  refine ⟨k + 1, ⟨hkl, fun j hj => ?_⟩, Wk.mkG [] rfl rfl rfl rfl rfl ?_ ?_ rfl rfl (fun _ h => h), by omega⟩
  ·by_cases e : j = k
   ·rw [e]; exact hv
   ·exact hno j (by omega)
  ·exact allT
  ·exact ⟨
   cnA, lrw, lrw
   , trivial⟩
 have hkl' : ¬ (k : Int) < M := by omega
 repeat (first
  | refine uA ?_
  | refine uB ?_
  | refine uH ?_
  | refine AWp.ret ?_
  | refine kU ?_
  | (refine rG 2 ?_
     refine qr5f aJ ?_
     refine aB ?_)
  | (refine rG 7 ?_
     refine kC ?_
     refine aB ?_))
 refine ⟨mkL 19 3 [(4, .c (iC (-1)))] [(1000, ctB 1001 1002 ta tb ma mb st w), (1001, cwB n ca), (1002, cwB n cb)] [], [], _, ctL ta tb ma mb st w n ca cb, [], ⟨rfl, rfl, rfl⟩, rfl, Wk.mkL [] rfl rfl rfl rfl rfl ?_ ?_ rfl rfl (fun _ h => h.1), rfl, rfl, GRets.one (x := .c _) (GRes.tmp rfl)⟩
 ·exact allT
 ·exact ⟨
  cnA, lrw, lrw
  , trivial⟩
set_option maxHeartbeats 1000000 in
set_option maxRecDepth 100000 in
theorem cf_M {ta tb ma mb st w : Int} {n M : Nat} {ca cb : Nat → Int} {p : Nat → Bool} (ho : OpenOk ta tb ma mb st w n ca cb M p) (u : Value) :
 GMP Try.prog 103 (fun fx => fx 1000 = some u) [.c (natL M), .c (.p (opnV u))] (ctL ta tb ma mb st w n ca cb) [] (GEq (.c (bC (!(List.range M).all fun f => !p f))) (ctL ta tb ma mb st w n ca cb) []) := by
 have hn0 := ho.1
 by_cases h : ∃ q, q < M ∧ p q = true
 ·obtain ⟨q, hq, h1, h2⟩ : ∃ q, q < M ∧ p q = true ∧ ∀ j, j < q → p j = false := by
   obtain ⟨q, hq⟩ := h
   induction q using Nat.strongRecOn with
   | ind q ih =>
     by_cases hj : ∃ j, j < q ∧ p j = true
     ·obtain ⟨j, g1, g2⟩ := hj
      exact ih j g1 ⟨by omega, g2⟩
     ·exact ⟨q, hq.1, hq.2, fun j hjq => Bool.eq_false_iff.2 fun e => hj ⟨j, hjq, e⟩⟩
  have hI := ixHit_M ho q hq h1 h2 u
  have hb : (!(List.range M).all fun f => !p f) = true := by
   rw [Bool.not_eq_true', List.all_eq_false]
   exact ⟨q, List.mem_range.2 hq, by simp [h1]⟩
  rw [hb]
  refine gmp_at (pre := fun fx => fx 1000 = some u) Try.func103 rfl rfl Try.ntmps103 rfl ?_
  repeat (first
   | refine uA ?_
   | refine uB ?_
   | refine AWp.ret ?_
   | (refine rG 0 ?_
      refine kC ?_
      refine aB ?_)
   | (refine rG 1 ?_
      (iterate 2 refine kA ?_)
      refine AList.callMP [1000, 1001, 1002] [] (ctL ta tb ma mb st w n ca cb) (ctL ta tb ma mb st w n ca cb) [] (ctL ta tb ma mb st w n ca cb) [] rfl rfl FnV.func rfl Try.func136 rfl (by kernel_rfl) (ct_lend 1 2 hn0 (h := trivial)) rfl (by exact ⟨.c (.b (.imm _ rfl)), .c (.b (.imm _ rfl)), trivial⟩) (.c (.imm _ rfl)) (ct_back 1 2 (h := trivial)) trivial (fun _ h fx hf => hf 0 1000 rfl u h.2) (hI) ?_
      refine qr5t aK ?_
      refine kC ?_
      refine aB ?_))
  refine ⟨mkL 9 3 [(4, .c (bC true))] [(1000, ctB 1001 1002 ta tb ma mb st w), (1001, cwB n ca), (1002, cwB n cb)] [], [], _, ctL ta tb ma mb st w n ca cb, [], ⟨rfl, rfl, rfl⟩, rfl, Wk.mkL [] rfl rfl rfl rfl rfl ?_ ?_ rfl rfl (fun _ h => h.1), rfl, rfl, GRets.one (x := .c _) (GRes.tmp rfl)⟩
  ·exact allT
  ·exact ⟨
   cnA, lrw, lrw
   , trivial⟩
 ·have h2 : ∀ j, j < M → p j = false := fun j hj => Bool.eq_false_iff.2 fun e => h ⟨j, hj, e⟩
  have hI := ixNo_M ho h2 u
  have hb : (!(List.range M).all fun f => !p f) = false := by
   rw [Bool.not_eq_false', List.all_eq_true]
   exact fun j hj => by rw [h2 j (List.mem_range.1 hj)]; rfl
  rw [hb]
  refine gmp_at (pre := fun fx => fx 1000 = some u) Try.func103 rfl rfl Try.ntmps103 rfl ?_
  repeat (first
   | refine uA ?_
   | refine uB ?_
   | refine AWp.ret ?_
   | (refine rG 0 ?_
      refine kC ?_
      refine aB ?_)
   | (refine rG 1 ?_
      (iterate 2 refine kA ?_)
      refine AList.callMP [1000, 1001, 1002] [] (ctL ta tb ma mb st w n ca cb) (ctL ta tb ma mb st w n ca cb) [] (ctL ta tb ma mb st w n ca cb) [] rfl rfl FnV.func rfl Try.func136 rfl (by kernel_rfl) (ct_lend 1 2 hn0 (h := trivial)) rfl (by exact ⟨.c (.b (.imm _ rfl)), .c (.b (.imm _ rfl)), trivial⟩) (.c (.imm _ rfl)) (ct_back 1 2 (h := trivial)) trivial (fun _ h fx hf => hf 0 1000 rfl u h.2) (hI) ?_
      refine qr5f aJ ?_
      refine kC ?_
      refine aB ?_))
  refine ⟨mkL 9 3 [(4, .c (bC false))] [(1000, ctB 1001 1002 ta tb ma mb st w), (1001, cwB n ca), (1002, cwB n cb)] [], [], _, ctL ta tb ma mb st w n ca cb, [], ⟨rfl, rfl, rfl⟩, rfl, Wk.mkL [] rfl rfl rfl rfl rfl ?_ ?_ rfl rfl (fun _ h => h.1), rfl, rfl, GRets.one (x := .c _) (GRes.tmp rfl)⟩
  ·exact allT
  ·exact ⟨
   cnA, lrw, lrw
   , trivial⟩
def upTo (k : Nat) (i : Nat) : Int := if i < k then (i : Int) else 0
set_option maxHeartbeats 2000000 in
set_option maxRecDepth 100000 in
theorem decides_M {ta tb ma mb st w : Int} {n M : Nat} {ca cb : Nat → Int} {p : Nat → Bool} (ho : OpenOk ta tb ma mb st w n ca cb M p) (hM : w - st + 1 = (M : Int)) (hM0 : 0 < M) (hw : -1000 ≤ w ∧ w ≤ 1000) (hst : -1000 ≤ st ∧ st ≤ 1000) :
 GMCalls Try.prog 48 [.c (.pt 1000 8 0 0)] (ctL ta tb ma mb st w n ca cb) [] (.c (bC ((List.range M).all fun f => !p f))) (ctL ta tb ma mb st w n ca cb) [] := by
 have hn0 := ho.1
 have hM2 := ho.2.1
 refine gm_at Try.func48 rfl rfl Try.ntmps48 rfl ?_
 repeat (first
  | refine uA ?_
  | refine uB ?_
  | refine uC ?_
  | (refine rG 0 ?_
     refine kC ?_
     refine aB ?_)
  | (refine AWp.draw (id := 1) mixed ?_; refine kA ?_; refine AList.nilPt rfl rfl rfl rfl ?_; refine kD ?_; refine kE ?_; refine kA ?_; refine AList.nilPt rfl rfl rfl rfl ?_; refine kD ?_; refine kE ?_; refine qr4w2 AList.sub ?_; refine qr4w2 aL ?_; refine qr9e2o2 (AList.makeSl (n := M) tyOk) ?_; refine kC ?_; refine aB ⟨by kernel_rfl, ?_⟩)
  | (refine rG 2 ?_
     refine kA ?_
     refine qr7 (AList.lenOw tyOk) ?_
     refine kA ?_
     refine aB ?_))
 refine AWp.round (fun k : Nat => mkL 31 3 [(0, .c (.pt 1000 8 0 0)), (3, .c (.ow 40)), (17, .c (iC M)), (18, .c (iC k))] [(40, cwB M (upTo k)), (1000, ctB 1001 1002 ta tb ma mb st w), (1001, cwB n ca), (1002, cwB n cb)] [40])
  (fun k => k ≤ M) (fun k => M - k) 0 (Nat.zero_le _) ?_ (fun k hk => ?_)
 ·refine Wk.mkL [(40, some 15)] rfl rfl rfl rfl rfl ?_ ?_
  ·repeat (first | exact trivial | refine ⟨⟨_, rfl, by first | exact LeA.c (LeC.ptB _ _ _ _ rfl) | exact leT⟩, ?_⟩)
  ·exact ⟨HeapOk.row rfl rfl rfl (fun i _ => cell1 ⟨rfl, rfl⟩),
   cnA, lrw, lrw
   , trivial⟩
 by_cases hkl : k < M
 ·have hkl' : (k : Int) < M := by omega
  repeat (first
   | refine uA ?_
   | refine uB ?_
   | refine uC ?_
   | refine uG ?_
   | refine uD ?_
   | refine kT ?_
   | (refine rG 3 ?_
      refine qr5t aK ?_
      refine aB ?_)
   | (refine rG 4 ?_
      refine kA ?_
      refine kC ?_
      refine aB ?_)
   | (refine rG 5 ?_
      (iterate 3 refine kA ?_)
      refine qr10eo (AList.idxOw (k := k) tyOk) ?_
      refine kI ?_
      refine aB ?_)
   | (refine rG 6 ?_
      refine qr4w2 aL ?_
      refine kA ?_
      refine aB ?_))
  refine ⟨k + 1, hkl, Wk.mkL [(40, some 40)] rfl rfl rfl rfl rfl ?_ ?_, by omega⟩
  ·repeat (first | exact trivial | refine ⟨⟨_, rfl, by first | exact LeA.c (LeC.ptB _ _ _ _ rfl) | exact leT⟩, ?_⟩)
  ·exact ⟨HeapOk.row rfl rfl rfl (iF_set (by unfold upTo; rw [if_pos (Nat.lt_succ_self k)]) (fun i hi => by
    unfold upTo
    by_cases h : i < k
    ·rw [if_pos h, if_pos (by omega)]
    ·rw [if_neg h, if_neg (by omega)])),
   cnA, lrw, lrw
   , trivial⟩
 have hkl' : ¬ (k : Int) < M := by omega
 obtain rfl : k = M := by omega
 repeat (first
  | refine uA ?_
  | refine uH ?_
  | refine kU ?_
  | (refine rG 3 ?_
     refine qr5f aJ ?_
     refine aB ?_))
 refine AWp.weak (S' := mkL 31 3 [(0, .c (.pt 1000 8 0 0)), (3, .c (natL k))] [(1000, ctB 1001 1002 ta tb ma mb st w), (1001, cwB n ca), (1002, cwB n cb)] []) (Wk.mkL [] rfl rfl rfl rfl rfl ?_ ?_) ?_
 ·exact ⟨⟨_, rfl, LeA.c (LeC.ptB _ _ _ _ rfl)⟩, ⟨_, rfl, LeA.c (LeC.fz rfl rfl rfl (fun i hi j _ => ⟨by show CV.p (.int .i64 (upTo k i)) = CV.p (.int .i64 (i : Int)); unfold upTo; rw [if_pos hi], rfl⟩))⟩, trivial⟩
 ·exact ⟨
  cnA, lrw, lrw
  , trivial⟩
 have hc := cf_M ho
 cases hb : (List.range k).all fun f => !p f with
 | true =>
   rw [hb] at hc
   refine AWp.text ?_
   refine AText.split 2 ?_
   (iterate 2 refine kA ?_)
   refine aB ?_
   refine AText.mkCallM [1000, 1001, 1002] [] (ctL ta tb ma mb st w n ca cb) (ctL ta tb ma mb st w n ca cb) [] (ctL ta tb ma mb st w n ca cb) [] rfl rfl rfl rfl rfl rfl rfl (fun _ => rfl) Try.func103 rfl (by kernel_rfl) (ct_lend 1 2 hn0 (h := trivial)) rfl (by exact fun _ => ⟨.c (.b (.imm _ rfl)), .c (.b (.imm _ rfl)), trivial⟩) (.c (.imm _ rfl)) (ct_back 1 2 (h := trivial)) trivial (hc) ?_
   refine AText.all ?_
   refine qr3 AList.notB ?_
   refine kC ?_
   refine aB ?_
   repeat (first
    | refine uB ?_
    | refine AWp.ret ?_)
   refine ⟨mkL 31 3 [(2, .c (bC true))] [(1000, ctB 1001 1002 ta tb ma mb st w), (1001, cwB n ca), (1002, cwB n cb)] [], [], _, ctL ta tb ma mb st w n ca cb, [], ⟨rfl, rfl, rfl⟩, rfl, Wk.mkL [] rfl rfl rfl rfl rfl ?_ ?_, rfl, rfl, GRets.one (x := .c _) (GRes.tmp rfl)⟩
   ·exact allT
   ·exact ⟨
    cnA, lrw, lrw
    , trivial⟩
 | false =>
   rw [hb] at hc
   refine AWp.text ?_
   refine AText.split 2 ?_
   (iterate 2 refine kA ?_)
   refine aB ?_
   refine AText.mkCallM [1000, 1001, 1002] [] (ctL ta tb ma mb st w n ca cb) (ctL ta tb ma mb st w n ca cb) [] (ctL ta tb ma mb st w n ca cb) [] rfl rfl rfl rfl rfl rfl rfl (fun _ => rfl) Try.func103 rfl (by kernel_rfl) (ct_lend 1 2 hn0 (h := trivial)) rfl (by exact fun _ => ⟨.c (.b (.imm _ rfl)), .c (.b (.imm _ rfl)), trivial⟩) (.c (.imm _ rfl)) (ct_back 1 2 (h := trivial)) trivial (hc) ?_
   refine AText.all ?_
   refine qr3 AList.notB ?_
   refine kC ?_
   refine aB ?_
   repeat (first
    | refine uB ?_
    | refine AWp.ret ?_)
   refine ⟨mkL 31 3 [(2, .c (bC false))] [(1000, ctB 1001 1002 ta tb ma mb st w), (1001, cwB n ca), (1002, cwB n cb)] [], [], _, ctL ta tb ma mb st w n ca cb, [], ⟨rfl, rfl, rfl⟩, rfl, Wk.mkL [] rfl rfl rfl rfl rfl ?_ ?_, rfl, rfl, GRets.one (x := .c _) (GRes.tmp rfl)⟩
   ·exact allT
   ·exact ⟨
    cnA, lrw, lrw
    , trivial⟩
end Go.Proofs.Ytekkldgmjdllbaa
end
