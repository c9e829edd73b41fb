/- Parts of the proof: AMem, AMem3, AMem5, AMem9, AMemA. -/
import Derived.Test.YtekkldgmjdllbaaG05
import Derived.Test.YtekkldgmjdllbaaG04
import Derived.Test.YtekkldgmjdllbaaG03
import Derived.RangeFuncLeaves
import Derived.RangeFuncRecord
import Derived.Test.YtekkldgmjdllbaaG02
import Derived.Test.YtekkldgmjdllbaaG01
import Derived.Deep.AppendLies
import Derived.OrdersIn
import Derived.TacticsIn
import Derived.RangeFuncCalls
import Derived.Maps.AppendAt
import Derived.OwnWalk
import Derived.StillTail
import Derived.Below
import Derived.Deep.Draws
import Derived.WalkKit
import Derived.KernelRfl
import Derived.Test.YtekkldgmjdllbaaG06
import Derived.Great.BuildSlice
import Derived.Test.YtekkldgmjdllbaaG07
import Derived.Test.YtekkldgmjdllbaaG08
import Derived.Laws.StructEq
set_option linter.unusedSimpArgs false
set_option linter.unusedVariables false
section
namespace Go.AV
open Go Go.RowKit Go.Flow
section
variable {P : Program} {tab : List (TypeId × TD)}
section ops
variable {ops : Array Oper} {rest : List Oper} {acc : List (List Nat × List Nat)} {S : St} {Q : List (List Nat × List Nat) → St → Prop} {dst : Option Tmp} {ty : TypeId} {pos : String} {after : Array Edge} {guard : Option (Nat × Bool)}
theorem AList.lenNil (T : tabOk P tab = true) {x : Operand} {t1 : TypeId} {d : TD} {el : TypeId} (hw : S.wants ops { dst, op := .call { callee := .builtin .len, args := #[x], argTypes := #[t1] }, type := ty, pos, after, guard } = some true) (hd : dOk S.n dst = true)
 (hx : S.opd x = some (.c (.p (.slice none 0 0)))) (ht : assoc tab t1 = some d) (hk : d.k = .sl el)
 (hn : AList P ops rest (([], []) :: acc) (S.eff dst ⟨.c (.p (.int .i64 0)), [], []⟩) Q) : AList P ops ({ dst, op := .call { callee := .builtin .len, args := #[x], argTypes := #[t1] }, type := ty, pos, after, guard } :: rest) acc S Q :=
 AList.len (rd := []) (n := 0) hw hd (ty_sl T ht hk) hx (fun S1 _ b0 σ a w R u hu => ⟨none, 0, hu.2⟩) hn
end ops
end
section
variable {P : Program} {tab : List (TypeId × TD)}
section ops
variable {ops : Array Oper} {rest : List Oper} {acc : List (List Nat × List Nat)} {S : St} {Q : List (List Nat × List Nat) → St → Prop} {dst : Option Tmp} {ty : TypeId} {pos : String} {after : Array Edge} {guard : Option (Nat × Bool)}
theorem AList.emptySl (T : tabOk P tab = true) {id : Nat} {t el : TypeId} {d e : TD} {parts : Array (Nat × Operand)} (hw : S.wants ops { dst := some id, op := .buildSlice t 0 parts, type := ty, pos, after, guard } = some true) (hd : dOk S.n (some id) = true) (hf : S.fr id = true)
 (ht : assoc tab t = some d) (hk : d.k = .sl el) (he : assoc tab el = some e) (hp : parts = #[])
 (hn : AList P ops rest (([id], [id, id]) :: acc) (S.eff (some id) ⟨.c (.ow id), [(id, some ⟨true, 0, e.size, el, zF e.zero⟩)], [id]⟩) Q) : AList P ops ({ dst := some id, op := .buildSlice t 0 parts, type := ty, pos, after, guard } :: rest) acc S Q :=
 AList.new (B := ⟨true, 0, e.size, el, zF e.zero⟩) [] hw hd hf (fun S1 h1 _ b0 σ a w R => by
  obtain ⟨inf, z, u, i1, i2, i3, i4, i5, i6, -⟩ := ty_info T he
  subst hp
  refine ⟨.slice (some ⟨w.heap.size, 0, none⟩) 0 0, 0, #[], ?_, .inl ⟨rfl, rfl, Nat.le_refl _, by simp [maxLen]⟩, by simp, fun k hk => absurd hk (Nat.not_lt_zero _), fun σ' O' w' h => rep_ow h⟩
  simp [execOp, Instr.buildSlice, run_underlying (ty_sl T ht hk), sizeOf, typeInfo, i1, Instr.fill, newRow]
  rw [show Array.map (fun _ => default) (Array.range 0) = (#[] : Array Value) from Array.ext' (by simp)]) hn

end ops
end
section
variable {P : Program} {tab : List (TypeId × TD)}
section ops
variable {ops : Array Oper} {rest : List Oper} {acc : List (List Nat × List Nat)} {S : St} {Q : List (List Nat × List Nat) → St → Prop} {dst : Option Tmp} {ty : TypeId} {pos : String} {after : Array Edge} {guard : Option (Nat × Bool)}
variable {x y : Operand} {xt yt : TypeId} {i j : Int}
end ops
section code
variable {next : St → Prop} {Q : Exit → St → Prop} {S : St} {id k : Nat}
theorem LeC.lz {h : Nat → Option AB} {ren : List (Nat × Option Nat)} {n n' sz : Nat} {F G : Nat → Nat → CV} (hn : n' = n) (hc : ∀ k, k < n → ∀ j, j < sz → F k j = G k j) : LeC h ren (.ls n sz F) (.ls n' sz G) := by
 subst hn
 exact .ls n' sz F G hc
end code
end
section
variable {P : Program}
section ops
variable {ops : Array Oper} {rest : List Oper} {acc : List (List Nat × List Nat)} {S : St} {Q : List (List Nat × List Nat) → St → Prop} {dst : Option Tmp} {ty xt yt : TypeId} {pos : String} {after : Array Edge} {guard : Option (Nat × Bool)} {x y : Operand} {tab : List (TypeId × TD)}
theorem AList.loadAE (T : tabOk P tab = true) {t : TypeId} {id sz k j : Nat} {B : AB} {d : TD} {l : List CV} (hl : cellsFrom (B.F k) j d.size = l) (hw : S.wants ops { dst, op := .load t x, type := ty, pos, after, guard } = some true) (hd : dOk S.n dst = true)
 (hx : S.opd x = some (.c (.pt id sz k j))) (hh : S.h id = some B) (hs : B.sz = sz) (ht : assoc tab t = some d) (hk : isAg d.k = true) (hkn : k < B.n) (hj : j + d.size ≤ B.sz)
 (hn : AList P ops rest (([id], []) :: acc) (S.eff dst ⟨.ag l, [], []⟩) Q) : AList P ops ({ dst, op := .load t x, type := ty, pos, after, guard } :: rest) acc S Q := by
 subst hl
 exact AList.loadA T hw hd hx hh hs ht hk hkn hj hn
end ops
section rows
variable {α : Type} {c : α → List CV} {z : α} {sz : Nat}
end rows
end
/- Short forms of what is printed often: proofs by default. -/
theorem qr7eo {A0 A1 A2 A3 A4 A5 A6 A7 A8 N G : Prop} (f : A0 → A1 → A2 → A3 → A4 → A5 → A6 → A7 → A8 → N → G) (hn : N) (h0 : A0 := by exact rfl) (h1 : A1 := by exact rfl) (h2 : A2 := by exact rfl) (h3 : A3 := by exact rfl) (h4 : A4 := by exact rfl) (h5 : A5 := by exact rfl) (h6 : A6 := by exact rfl) (h7 : A7 := by first | rfl | omega) (h8 : A8 := by exact oM) : G := f h0 h1 h2 h3 h4 h5 h6 h7 h8 hn
theorem qr9o2 {A0 A1 A2 A3 A4 A5 A6 A7 A8 A9 A10 N G : Prop} (f : A0 → A1 → A2 → A3 → A4 → A5 → A6 → A7 → A8 → A9 → A10 → N → G) (hn : N) (h0 : A0 := by exact rfl) (h1 : A1 := by exact rfl) (h2 : A2 := by exact rfl) (h3 : A3 := by exact rfl) (h4 : A4 := by exact rfl) (h5 : A5 := by exact rfl) (h6 : A6 := by exact rfl) (h7 : A7 := by exact rfl) (h8 : A8 := by exact rfl) (h9 : A9 := by exact oM) (h10 : A10 := by exact oM) : G := f h0 h1 h2 h3 h4 h5 h6 h7 h8 h9 h10 hn
theorem aY : type_of% @AWp.region := @AWp.region
section
variable {P : Program}
section ops
variable {ops : Array Oper} {rest : List Oper} {acc : List (List Nat × List Nat)} {S : St} {Q : List (List Nat × List Nat) → St → Prop} {dst : Option Tmp} {ty : TypeId} {pos : String} {after : Array Edge} {guard : Option (Nat × Bool)}
section
variable {tab : List (TypeId × TD)}
end
theorem AList.loadAF {tab : List (TypeId × TD)} (T : tabOk P tab = true) {t : TypeId} {x : Operand} {id sz k j : Nat} {B : AB} {d : TD} {l : List CV} (hw : S.wants ops { dst, op := .load t x, type := ty, pos, after, guard } = some true) (hd : dOk S.n dst = true)
 (hx : S.opd x = some (.c (.pt id sz k j))) (hh : S.h id = some B) (hs : B.sz = sz) (ht : assoc tab t = some d) (hk : isAg d.k = true) (hkn : k < B.n) (hj : j + d.size ≤ B.sz) (hl : cellsFrom (B.F k) j d.size = l)
 (hn : AList P ops rest (([id], []) :: acc) (S.eff dst ⟨.ag l, [], []⟩) Q) : AList P ops ({ dst, op := .load t x, type := ty, pos, after, guard } :: rest) acc S Q := AList.loadAE T hl hw hd hx hh hs ht hk hkn hj hn
end ops
end
end Go.AV
end
