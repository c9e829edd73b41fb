/- Parts of the proof: A24tp, A28zj, A29x, A29ze. -/
import Derived.Test.YtpefnljgalpllaaGreatHA29rfr04
import Derived.Test.YtpefnljgalpllaaGreatG45
set_option linter.unusedSimpArgs false
set_option linter.unusedVariables false
set_option maxHeartbeats 0
section
namespace Go.Proofs.YtpefnljgalpllaaGreat
open Go.RowKit Go.Flow Go.AV Go.Plain
def sh5:Bool:=(List.range 5).all fun m=>(List.range (2*m+1)).all fun i=>(List.range (2*m+1)).all fun j=>decide ((((i:Int)-m,(j:Int)-m):Int×Int)∈shL m)
theorem zSH:sh5=true:=by decide +kernel
theorem zSG{m:Nat}(hm:m≤4){d:Int×Int}:d∈shL m↔(-(m:Int)≤d.1∧d.1≤m)∧-(m:Int)≤d.2∧d.2≤m:=by
 constructor
 ·intro h
  obtain⟨j,hj,rfl⟩:=List.getElem_of_mem h
  have:=zJJ hj
  rwa [List.getD_eq_getElem?_getD,List.getElem?_eq_getElem hj]at this
 ·rintro⟨⟨h1,h2⟩,h3,h4⟩
  have h:=zSH;unfold sh5 at h;have h:=List.all_eq_true.1 (List.all_eq_true.1 (List.all_eq_true.1 h m (List.mem_range.2 xD)) (d.1+m).toNat (List.mem_range.2 xD)) (d.2+m).toNat (List.mem_range.2 xD);have h:=of_decide_eq_true h
  rwa [show(((d.1+m).toNat:Nat):Int)-m=d.1 by omega,show(((d.2+m).toNat:Nat):Int)-m=d.2 by omega]at h
theorem zRt(ll:List (List Int)):Sm (zFN ll)∧∀l∈(zFN ll).C,l.length≤3:=by
 obtain⟨b1,b2,b3⟩:=zRr ll
 have h:=zJg ll (zAN ll+zA6 ll);have hR:=zJw ll (rdN ll);have hC:=h.C;have hF:=h.F
 refine⟨⟨?_,fun r hr=> ?_,?_,fun l hl=> ?_,?_,h.Ff,h.O,h.T⟩,fun l hl=>(h.Cc l hl).1⟩
 ·show(zAC ll (rdN ll)).2.length≤4
  omega
 ·obtain⟨bl,sh,rfl⟩:=zNG ll _ r hr
  exact zSf bl sh
 ·show(zBz ll (zAN ll+zA6 ll)).C.length≤5
  omega
 ·have:=h.Cc l hl
  exact⟨by omega,this.2⟩
 ·show(zBz ll (zAN ll+zA6 ll)).F.length≤6
  omega
def zCJ(ll:List (List Int)):List (List Int):=(ll.take 16).map fun l=>l.take 40
theorem zII(ll:List (List Int)):(zCJ ll).length=min ll.length 16:=by
 unfold zCJ;rw[List.length_map,List.length_take]
 omega
theorem zL0(ll:List (List Int)){k:Nat}(hk:k<min ll.length 16):(zCJ ll).getD k []=(ll.getD k []).take 40:=by
 unfold zCJ;rw[List.getD_eq_getElem?_getD,List.getElem?_map,List.getElem?_take,if_pos xD,List.getD_eq_getElem?_getD,List.getElem?_eq_getElem xD]
 rfl
theorem zQH(ll:List (List Int)):LlOk (zCJ ll):=by
 refine⟨by rw[zII];omega,fun k hk=> ?_⟩
 rw[zII]at hk;rw[zL0 ll hk,List.length_take]
 omega
theorem zS9(l:List Int)(m:Nat){k:Nat}(hk:k<min l.length m):fI (l.take m) k=fI l k:=by
 show(l.take m).getD k 0=l.getD k 0
 rw[List.getD_eq_getElem?_getD,List.getD_eq_getElem?_getD,List.getElem?_take,if_pos xD]
theorem zQI(ll:List (List Int)):Cv (.ls (min ll.length 16) 1 (cuF ll)) (lsL (zCJ ll)):=by
 have e:=zII ll;show Cv _ (.ls (zCJ ll).length 1 _);rw[e];refine zDJ fun k hk j hj O w u h=> ?_
 show RepI O w (.ls ((zCJ ll).getD k []).length 1 (iF (fI ((zCJ ll).getD k [])))) u;rw[zL0 ll hk,show((ll.getD k []).take 40).length=min (ll.getD k []).length 40 by rw[List.length_take];omega]
 refine zFZ (fun i hi j hj=> ?_) h;show iC (fI (ll.getD k []) (0+i))=iC (fI ((ll.getD k []).take 40) i);rw[Nat.zero_add,zS9 _ _ hi]
theorem zHS{p:Pb}(hl:∀l∈p.C,l.length≤4):∀(m:Nat) (ch:List Int),((zBa p m ch).length:Int)≤stT m
 |0,_=>Int.le_refl _
 | m + 1,ch=>by
   have hT:=zJN m;have key:∀k,((zAI p m ch k).length:Int)≤k*(1+stT m):=fun k=>by
    induction k with
    |zero=>simp[zAI]
    | succ k ih=>
      rw[zFk,List.length_append];have h1:((zEK p m ch k).length:Int)≤1+stT m:=by
       unfold zEK;have:=zHS hl m (ch++ [(k:Int)]);rw[List.length_cons]
       split
       ·omega
       ·simp only[List.length_nil];omega
      rw[Int.natCast_add,Int.natCast_add,Int.add_mul]
      simp only[Int.natCast_one,Int.one_mul]
      omega
   have h4:(p.C.getD ch.length []).length≤4:=by
    by_cases h:ch.length<p.C.length
    ·exact hl _ (zAH h)
    ·rw[List.getD_eq_getElem?_getD,List.getElem?_eq_none xD];exact Nat.zero_le _
   have h5:((p.C.getD ch.length []).length:Int)*(1+stT m)≤4*(1+stT m):=Int.mul_le_mul_of_nonneg_right xD xD;exact Int.le_trans (key _) h5
theorem zL5{p:Pb}(sp:Sm p):(∀j i,j<p.C.length→i<(p.C.getD j []).length→((p.C.getD j []).getD i bpZ).W=6∧((p.C.getD j []).getD i bpZ).H=5)∧∀j,j<p.F.length→(p.F.getD j bpZ).W=6∧(p.F.getD j bpZ).H=5:=
 ⟨fun j i hj hi=>by
   obtain⟨d,hd⟩:=(sp.Cc _ (zAH (z:= []) hj)).2 _ (zAH (z:=bpZ) hi)
   rw[hd]
   exact⟨rfl,rfl⟩,fun j hj=>by
   obtain⟨d,hd⟩:=sp.Ff _ (zAH (z:=bpZ) hj)
   rw[hd]
   exact⟨rfl,rfl⟩⟩
end Go.Proofs.YtpefnljgalpllaaGreat
end
