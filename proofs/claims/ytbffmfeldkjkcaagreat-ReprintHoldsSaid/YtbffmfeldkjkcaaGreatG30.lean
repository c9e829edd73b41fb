/- Parts of the proof: A28zf. -/
import Derived.Test.YtbffmfeldkjkcaaGreatG27
set_option linter.unusedSimpArgs false
set_option linter.unusedVariables false
set_option maxHeartbeats 0
section
namespace Go.Proofs.YtbffmfeldkjkcaaGreat
open Go.RowKit Go.Flow Go.AV Go.Plain
theorem zQn{p:Pb}{n:Nat}{f g:Nat→Int}{c:Int}(h:∀k,k<n→f k=g k):zAW p n f c=zAW p n g c:=by
 unfold zAW
 congr 1
 rw[Bool.eq_iff_iff,List.all_eq_true,List.all_eq_true]
 constructor
 ·intro h1 k hk
  rw[←h k (List.mem_range.1 hk)];exact h1 k hk
 ·intro h1 k hk
  rw[h k (List.mem_range.1 hk)];exact h1 k hk
def GoodC(p:Pb)(ch:List Int):Prop:=∀k,k<ch.length→zED p (fI ch) k=true
theorem zQf(ch e:List Int):∀k,k<ch.length→fI (ch++e) k=fI ch k:=fun k hk=>by
 show(ch++e).getD k 0=ch.getD k 0
 rw[List.getD_eq_getElem?_getD,List.getElem?_append_left hk,←List.getD_eq_getElem?_getD]
theorem zQe(ch e:List Int)(c:Int):fI (ch++c::e) ch.length=c:=by
 show(ch++c::e).getD ch.length 0=c
 simp
theorem GoodC.head{p:Pb}{ch e:List Int}{c:Int}(h:GoodC p (ch++c::e)):(0≤c∧c<(p.C.getD ch.length []).length)∧zAW p ch.length (fI ch) c=true:=by
 have:=stepOk_iff.1 (h ch.length (by simp));rw[zQe,zQn (zQf ch (c::e))]at this;exact this
end Go.Proofs.YtbffmfeldkjkcaaGreat
end
