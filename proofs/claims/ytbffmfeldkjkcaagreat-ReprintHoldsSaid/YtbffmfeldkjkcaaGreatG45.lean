/- Parts of the proof: BmDots. -/
import Derived.Test.YtbffmfeldkjkcaaGreatG16
import Derived.RangeFuncBound
import Derived.Shelf.RegionOpen
import Derived.OwnWalkIn
import Derived.LoopNIn
import Derived.LoopIn
set_option linter.unusedSimpArgs false
set_option linter.unusedVariables false
set_option maxHeartbeats 0
section
namespace Go.Proofs.YtbffmfeldkjkcaaGreat
open Go.RowKit Go.Shelf Go.Flow Go.Plain
open Go.Proofs
attribute [local go_sem] zBu
attribute [local go_sem] Oper.semAt_some

def Keep2(n₀ Bn:Nat)(W W':World):Prop:=Below n₀ W W'∧(Bn<W.heap.size→W'.heap[Bn]?=W.heap[Bn]?)
theorem Keep2.trans{n₀ Bn:Nat}{A B C:World}(h:Keep2 n₀ Bn A B)(k:Keep2 n₀ Bn B C):Keep2 n₀ Bn A C:=
 ⟨h.1.trans k.1,fun hb=>(k.2 (Nat.lt_of_lt_of_le hb h.1.size)).trans (h.2 hb)⟩
theorem Keep2.of_ext{n₀ Bn:Nat}{A B:World}(h:Ext A B)(hn:n₀≤A.heap.size):Keep2 n₀ Bn A B:=⟨Below.mono h hn,fun hb=>Below.block h Bn hb⟩
theorem Keep2.put{n₀ Bn:Nat}{w:World}(hn:n₀≤w.heap.size)(hb:Bn<w.heap.size)(W:World)(l:Nat)(o o':Obj)(hl:w.heap.size≤l)(h:W.heap[l]?=some o)(h1:o.isCells=false)(h2:o.isWalk=false):Keep2 n₀ Bn W (W.putObj l o'):=
 ⟨belowK_b hn W l o o' hl h h1 h2,fun _=>World.putObj_heap_other xD⟩
theorem Keep2.set_{n₀ Bn:Nat}{W:World}{p:Addr}(hp:n₀≤p.block)(hb:Bn≠p.block)(v:Value):Keep2 n₀ Bn W (W.setCell p v):=
 ⟨(Below.refl n₀ W).setCell hp v,fun _=>Below.heap_setCell W p v Bn hb⟩
end Go.Proofs.YtbffmfeldkjkcaaGreat
end
