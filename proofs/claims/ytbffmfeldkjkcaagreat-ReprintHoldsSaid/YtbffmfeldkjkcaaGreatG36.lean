/- Parts of the proof: ALd, A29a, A29b. -/
import Derived.Test.YtbffmfeldkjkcaaGreatG29
import Derived.Test.YtbffmfeldkjkcaaGreatG35
set_option linter.unusedSimpArgs false
set_option linter.unusedVariables false
set_option maxHeartbeats 0
section
namespace Go.AV
open Go Go.RowKit Go.Flow
section
variable{P:Program}{tab:List (TypeId×TD)}{ops:Array Oper}{rest:List Oper}{acc:List (List Nat×List Nat)}{S:St}{Q:List (List Nat×List Nat)→St→Prop}{dst:Option Tmp}{ty:TypeId}{pos:String}{after:Array Edge}{guard:Option (Nat×Bool)}
theorem zAp(T:zAq P tab=true){t:TypeId}{x:Operand}{id sz k j:Nat}{B:AB}{d:TD}{c:CV}(hw:S.wants ops {dst,op:=.load t x,type:=ty,pos,after,guard}=some true)(hd:dOk S.n dst=true)
 (hx:S.opd x=some (.c (.pt id sz k j))) (hh:S.h id=some B) (hs:B.sz=sz) (ht:zD tab t=some d) (hk:zDy d.k=true) (hkn:k<B.n) (hj:j<B.sz) (hl:B.F k j=c)
 (hn:AList P ops rest (([id],[])::acc) (S.eff dst ⟨.c c,[],[]⟩) Q):AList P ops ({dst,op:=.load t x,type:=ty,pos,after,guard}::rest) acc S Q:=by
 subst hl;exact aE T hw hd hx hh hs ht hk hkn hj hn
end
end Go.AV
end
section
namespace Go.Proofs.YtbffmfeldkjkcaaGreat
open Go.RowKit Go.Flow Go.AV Go.Plain
def zRb(n:Nat)(ns:List Int)(k:Nat):Bool:=decide (0≤fI ns k∧fI ns k<n∧(0<k→fI ns (k-1)<fI ns k))
def zA9(n:Nat)(ns:List Int):Bool:=(List.range ns.length).all (zRb n ns)
theorem nmOk_iff{n:Nat}{ns:List Int}:zA9 n ns=true↔∀k,k<ns.length→0≤fI ns k∧fI ns k<n∧(0<k→fI ns (k-1)<fI ns k):=by
 unfold zA9;rw[List.all_eq_true]
 exact⟨fun h k hk=>of_decide_eq_true (h k (List.mem_range.2 hk)),fun h k hk=>decide_eq_true (h k (List.mem_range.1 hk))⟩
theorem zMX{n:Nat}{ns:List Int}{k:Nat}(hk:k<ns.length)(h:¬(0≤fI ns k∧fI ns k<n∧(0<k→fI ns (k-1)<fI ns k))):zA9 n ns=false:=Bool.eq_false_iff.2 fun e=>h (nmOk_iff.1 e k hk)
theorem zGa(F:Nat→Nat→CV)(m j0:Nat)(x:CV)(i j:Nat):zAw F m j0 1 [x] i j=if i=m∧j=j0 then x else F i j:=by
 unfold zAw;by_cases h1:i=m
 ·subst h1
  rw[Nat.beq_refl,Bool.true_and];by_cases h2:j=j0
  ·subst h2
   rw[if_pos ⟨rfl,rfl⟩,Nat.ble_eq.mpr (Nat.le_refl _),Nat.blt_eq.mpr (Nat.lt_succ_self _),Nat.sub_self]
   rfl
  ·rw[if_neg fun h=>h2 h.2]
   have:(Nat.ble j0 j && Nat.blt j (j0+1))=false:=by
    refine Bool.eq_false_iff.2 fun h=>h2 ?_
    rw[Bool.and_eq_true]at h;have a:=Nat.ble_eq.mp h.1;have b:=Nat.blt_eq.mp h.2
    omega
   rw[this]
   rfl
 ·rw[if_neg fun h=>h1 h.1,show Nat.beq i m=false from Bool.eq_false_iff.2 fun e=>h1 (Nat.eq_of_beq_eq_true e)]
  rfl
theorem zLk{W H:Int}:∀{L:List Bp},bmE W H L=0→∀b∈L,chk b.W b.H b.n=0∧b.W=W∧b.H=H
 | [],_,b,hb=>by cases hb
 | a ::L,h,b,hb=>by
   unfold bmE at h;by_cases h1:chk a.W a.H a.n=0
   ·rw[if_pos h1]at h
    by_cases h2:a.W=W∧a.H=H
    ·rw[if_pos h2]at h
     rcases List.mem_cons.1 hb with rfl|hb
     ·exact⟨h1,h2⟩
     ·exact zLk h b hb
    ·rw[if_neg h2]at h;cases h
   ·rw[if_neg h1]at h;exact absurd h h1
theorem zLB{p:Pb}(h:zAr p=0):∀b∈zCq p,chk b.W b.H b.n=0∧b.W=((zCq p).getD 0 bpZ).W∧b.H=((zCq p).getD 0 bpZ).H:=by
 unfold zAr at h;by_cases h1:4<p.R.length∨200<p.C.length∨200<p.F.length
 ·rw[if_pos h1]at h;cases h
 rw[if_neg h1]at h;by_cases h2:p.C.any (fun l=>decide (32<l.length))=true
 ·rw[if_pos h2]at h;cases h
 rw[if_neg h2]at h;by_cases h3:zDD p.R=0
 ·rw[if_pos h3]at h
  by_cases h4:p.O.length=p.C.length∧p.T.length=p.F.length
  ·rw[if_pos h4]at h
   exact zLk h
  ·rw[if_neg h4]at h;cases h
 ·rw[if_neg h3]at h;exact absurd h h3
theorem zLG{W H:Int}{n:Nat}(h:chk W H n=0):n≤9216:=by
 obtain⟨h1,h2,h3,h4,h5⟩:=okB h
 have:(n:Int)≤9216:=by
  rw[h5];exact Int.le_trans (Int.mul_le_mul_of_nonneg_right h2 h3) xD
 omega
theorem zLC{p:Pb}(h:zAr p=0):(∀b∈p.F,b.n≤9216)∧∀l∈p.C,∀b∈l,b.n≤9216:=
 ⟨fun b hb=>zLG (zLB h b (List.mem_append_right _ hb)).1,fun l hl b hb=>zLG (zLB h b (List.mem_append_left _ (List.mem_flatten.2 ⟨l,hl,hb⟩))).1⟩
end Go.Proofs.YtbffmfeldkjkcaaGreat
end
