/- Parts of the proof: A28zf. -/
import Derived.Test.YtjjaehpkccejaaaG31
import Derived.Test.YtjjaehpkccejaaaG30
import Derived.Test.YtjjaehpkccejaaaG27
import Derived.Test.YtjjaehpkccejaaaG15
import Derived.Test.YtjjaehpkccejaaaG25
import Derived.Test.YtjjaehpkccejaaaG10
import Derived.Test.YtjjaehpkccejaaaHA28zpr01
import Derived.Test.YtjjaehpkccejaaaG07
import Derived.Test.YtjjaehpkccejaaaG17
import Derived.Test.YtjjaehpkccejaaaG09
import Derived.Test.YtjjaehpkccejaaaG08
import Derived.Test.YtjjaehpkccejaaaG29
import Derived.Test.YtjjaehpkccejaaaG26
import Derived.DeepKeys4
import Derived.Test.YtjjaehpkccejaaaProg
import Derived.Test.YtjjaehpkccejaaaG01
import Derived.Test.YtjjaehpkccejaaaG06
import Derived.Laws.StructEq
import Derived.Shelf.Abstract
import Derived.WideKeyMaps
import Derived.MapKept
import Derived.Carry
import Derived.Lib.Hide
import Derived.Deep.QuietTactic
import Derived.BigQuiet
import Derived.Deep.DrawnRows
import Derived.Deep.AppendLies
import Derived.Laws.Cover3
import Derived.Test.YtjjaehpkccejaaaHA28zpr07
import Derived.Maps.AppendAt
import Derived.OwnWalk
import Derived.RangeFuncNested
import Derived.Test.YtjjaehpkccejaaaG28
import Derived.Test.YtjjaehpkccejaaaG19
import Derived.Test.YtjjaehpkccejaaaHA28zpr03
import Derived.Test.YtjjaehpkccejaaaG18
import Derived.Test.YtjjaehpkccejaaaG14
import Derived.StillTail
import Derived.Below
import Derived.Deep.Draws
import Derived.WalkKit
import Derived.KernelRfl
import Derived.Test.YtjjaehpkccejaaaG05
import Derived.Test.YtjjaehpkccejaaaG03
import Derived.Scope
import Derived.Test.YtjjaehpkccejaaaG21
import Derived.Test.YtjjaehpkccejaaaHA28zpr04
import Derived.Test.YtjjaehpkccejaaaG02
import Derived.RangeFuncLeaves
import Derived.RangeFuncRecord
import Derived.Test.YtjjaehpkccejaaaG04
import Derived.Great.BuildSlice
import Derived.Test.YtjjaehpkccejaaaG24
import Derived.Test.YtjjaehpkccejaaaHA28zpr02
import Derived.Test.YtjjaehpkccejaaaG13
import Derived.Laws.Pointers
import Derived.Test.YtjjaehpkccejaaaG16
import Derived.OrdersIn
import Derived.TacticsIn
import Derived.RangeFuncCalls
import Derived.Test.YtjjaehpkccejaaaG12
import Derived.Test.YtjjaehpkccejaaaG11
set_option linter.unusedSimpArgs false
set_option linter.unusedVariables false
section
namespace Go.Proofs.Ytjjaehpkccejaaa
open Go.RowKit Go.Flow Go.AV Go.Plain
theorem freeV_congr2 {p : Pb} {n : Nat} {f g : Nat → Int} {c : Int} (h : ∀ k, k < n → f k = g k) : freeV p n f c = freeV p n g c := by
 unfold freeV
 congr 1
 rw [Bool.eq_iff_iff, List.all_eq_true, List.all_eq_true]
 constructor
 ·intro h1 k hk
  rw [← h k (List.mem_range.1 hk)]; exact h1 k hk
 ·intro h1 k hk
  rw [h k (List.mem_range.1 hk)]; exact h1 k hk
def GoodC (p : Pb) (ch : List Int) : Prop := ∀ k, k < ch.length → stepOk p (fI ch) k = true
theorem fI_app_lt (ch e : List Int) : ∀ k, k < ch.length → fI (ch ++ e) k = fI ch k := fun k hk => by
 show (ch ++ e).getD k 0 = ch.getD k 0
 rw [List.getD_eq_getElem?_getD, List.getElem?_append_left hk, ← List.getD_eq_getElem?_getD]
theorem fI_app_at (ch e : List Int) (c : Int) : fI (ch ++ c :: e) ch.length = c := by
 show (ch ++ c :: e).getD ch.length 0 = c
 simp
theorem GoodC.head {p : Pb} {ch e : List Int} {c : Int} (h : GoodC p (ch ++ c :: e)) : (0 ≤ c ∧ c < (p.C.getD ch.length []).length) ∧ freeV p ch.length (fI ch) c = true := by
 have := stepOk_iff.1 (h ch.length (by simp))
 rw [fI_app_at, freeV_congr2 (fI_app_lt ch (c :: e))] at this
 exact this
end Go.Proofs.Ytjjaehpkccejaaa
end
