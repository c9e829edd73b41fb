/- Parts of the proof: AReg. -/
import Derived.Test.YtbffmfeldkjkcaaGreatG01
set_option linter.unusedSimpArgs false
set_option linter.unusedVariables false
set_option maxHeartbeats 0
section
namespace Go.AV
open Go Go.RowKit Go.Flow
section
variable{P:Program}

def fnc(r:Option Nat):Fence:={fn:=fun _=>True,depth:=none,alive:=false,round:=r}
theorem zE9(r:Option Nat):Wide (fnc r):=⟨fun _=>trivial,rfl,fun h=>callsIn_wide.2 h⟩
def GoesA(P:Program)(K:Value→World→Prop)(r:Result Next):Prop:=
 Goes P K r∨∃l f tmps assign body w',r=.ok (.round l f tmps assign body) w'∧RoundIn Fence.wide 0 P l f tmps assign body w' fun e w''=>∃v,e=.returned v∧K v w''
theorem GoesA.uponIn{rd:Option Nat}{o:Oper}{a:Act}{K:Act→World→Prop}{K0:Value→World→Prop}{Q:Exit→Act→World→Prop}{r:Result Next}
 (h:GoesA P K0 r) (hK:∀v w',K0 v w'→K (a.put o.dst v) w'):o.uponIn (fnc rd) 0 P a K Q r:=by
 rcases h with h|⟨l,f,tmps,assign,body,w',rfl,h⟩
 ·exact Goes.uponIn (zE9 rd) h hK
 ·rw[Oper.uponIn_round]
  exact⟨fun hd=>(by cases hd),RoundIn.mono (F:=fnc rd) h fun e w'' ⟨v,he,hc⟩=>by subst he;exact hK _ _ hc⟩
theorem GoesA.noDefer{o:Oper}{ρ:Operand→Value}{w:World}{K:Value→World→Prop}(h:GoesA P K ((execOp ρ o).run P w)):∀c,o.op≠ .defer c:=fun c hc=>by
 unfold execOp at h
 simp only[hc,Sem.run_bind]at h
 cases hr:(resolve ρ c o.type).run P w with
 |ok d w'=>rw[hr]at h;simp[GoesA,Goes,Result.andThen]at h
 |halt x w'=>rw[hr]at h;simp[GoesA,Goes,Result.andThen]at h
theorem GoesA.wpIn{rd:Option Nat}{o:Oper}{a:Act}{w:World}{K:Act→World→Prop}{K0:Value→World→Prop}{Q:Exit→Act→World→Prop}
 (h:GoesA P K0 ((execOp a.eval o).run P w)) (hK:∀v w',K0 v w'→K (a.put o.dst v) w'):o.wpIn (fnc rd) 0 P a w K Q:=
 ⟨fun _ _=>trivial,by rw[Oper.semAt_eq _ _ _ h.noDefer];exact h.uponIn hK⟩

def LStep(P:Program)(ops:Array Oper)(o:Oper)(rd:List Nat)(e:Eff)(S:St):Prop:=
 ∀ S1:St,S1.n=S.n∧S1.G=S.G→(∀t∈o.looksAt ops,S1.t t=S.t t)→(∀id∈rd,S1.h id=S.h id)→(∀id∈e.al,S1.fr id=S.fr id)→∀w0 a w,Rel w0 S1 a w→
   (Region.wanted o (yielded ops a.tmps)=true∧GoesA P (fun u w'=>Rel w0 (S1.eff o.dst e) (a.put o.dst u) w') ((execOp a.eval o).run P w))∨
   (Region.wanted o (yielded ops a.tmps)=false∧Rel w0 (S1.eff o.dst e) (a.put o.dst undef) w)

def zDG(P:Program)(ops:Array Oper):List Oper→List (List Nat×List Nat)→St→(List (List Nat×List Nat)→St→Prop)→Prop
 | [],acc,S,Q=>Q acc.reverse S
 |o::rest,acc,S,Q=>∃rd e,LStep P ops o rd e S∧zDG P ops rest ((rd++e.al,e.hs.map (·.1)++e.al)::acc) (S.eff o.dst e) Q

structure AList(P:Program)(ops:Array Oper)(l:List Oper)(acc:List (List Nat×List Nat))(S:St)(Q:List (List Nat×List Nat)→St→Prop):Prop where
 get:zDG P ops l acc S Q
theorem AList.cons{ops:Array Oper}{o:Oper}{rest:List Oper}{acc:List (List Nat×List Nat)}{S:St}{Q:List (List Nat×List Nat)→St→Prop}(rd:List Nat)(e:Eff)(hs:LStep P ops o rd e S)
 (hk:AList P ops rest ((rd++e.al,e.hs.map (·.1)++e.al)::acc) (S.eff o.dst e) Q):AList P ops (o::rest) acc S Q:=⟨rd,e,hs,hk.get⟩

theorem LStep.at{ops:Array Oper}{o:Oper}{rd:List Nat}{e:Eff}{S:St}(h:LStep P ops o rd e S){w0:zN}{a:Act}{w:World}(hR:Rel w0 S a w):
 (Region.wanted o (yielded ops a.tmps)=true∧GoesA P (fun u w'=>Rel w0 (S.eff o.dst e) (a.put o.dst u) w') ((execOp a.eval o).run P w))∨
 (Region.wanted o (yielded ops a.tmps)=false∧Rel w0 (S.eff o.dst e) (a.put o.dst undef) w):=
 h S ⟨rfl,rfl⟩ (fun _ _=>rfl) (fun _ _=>rfl) (fun _ _=>rfl) w0 a w hR

theorem zJW{rd:Option Nat}{ops:Array Oper}{Q:Exit→Act→World→Prop}{QS:List (List Nat×List Nat)→St→Prop}{w0:zN}:
 ∀(l:List Oper) (acc:List (List Nat×List Nat)) (S:St) (a:Act) (w:World),zDG P ops l acc S QS→Rel w0 S a w→(∀acc S a w,QS acc S→Rel w0 S a w→Q .normal a w)→wpListIn (fnc rd) 0 P ops Q l a w
 | [],acc,S,a,w,h,hR,hQ=>hQ _ _ _ _ h hR
 | o::rest,acc,S,a,w,⟨rd',e,hs,hk⟩,hR,hQ=>by
   have ih:=fun (a':Act) (w':World) (hR':Rel w0 (S.eff o.dst e) a' w')=>zJW (rd:=rd) rest _ _ a' w' hk hR' hQ
   unfold wpListIn
   rcases hs.at hR with ⟨hw,hg⟩|⟨hw,hR'⟩
   ·rw[if_pos hw]
    exact hg.wpIn fun v w' hR'=>ih _ _ hR'
   ·rw[if_neg (by simp[hw])]
    exact⟨fun _ _=>trivial,ih _ _ hR'⟩

def zAL(ops:Array Oper)(k:Nat):Option Tmp:=(ops[k]?).bind (·.dst)
def zAg(ops:Array Oper)(e:Nat→Eff)(S0:St)(L:Nat→Bool):Nat→St
 |0=>S0
 |k+1=>bif L k then (zAg ops e S0 L k).eff (zAL ops k) (e k)else zAg ops e S0 L k
section
variable{ops:Array Oper}{e:Nat→Eff}{S0:St}{L L':Nat→Bool}
theorem zFJ:∀m,(zAg ops e S0 L m).n=S0.n
 |0=>rfl
 |m+1=>by unfold zAg;cases L m<;>simp[St.eff,zFJ m]
theorem zIU:∀m,(zAg ops e S0 L m).ln=S0.ln
 |0=>rfl
 |m+1=>by unfold zAg;cases L m<;>simp[St.eff,zIU m]
theorem zFI:∀m,(zAg ops e S0 L m).G=S0.G
 |0=>rfl
 |m+1=>by unfold zAg;cases L m<;>simp[St.eff,zFI m]
theorem zIT:∀m,(zAg ops e S0 L m).gs=S0.gs
 |0=>rfl
 |m+1=>by unfold zAg;cases L m<;>simp[St.eff,zIT m]
theorem zIS:∀m,(zAg ops e S0 L m).dd=S0.dd
 |0=>rfl
 |m+1=>by unfold zAg;cases L m<;>simp[St.eff,zIS m]
theorem zH7{t:Nat}:∀m,(∀k,k<m→L k≠L' k→zAL ops k≠some t)→(zAg ops e S0 L m).t t=(zAg ops e S0 L' m).t t
 |0,_=>rfl
 | m+1,h=>by
   have ih:=zH7 m fun k hk=>h k (by omega)
   have key:zAL ops m≠some t→∀S:St,(S.eff (zAL ops m) (e m)).t t=S.t t:=fun hd S=>by
    simp only[St.eff]
    cases hc:zAL ops m with
    |none=>rfl
    |some d=>exact zX _ _ fun e=>hd (by rw[hc,e])
   have same:∀S S':St,S.t t=S'.t t→(S.eff (zAL ops m) (e m)).t t=(S'.eff (zAL ops m) (e m)).t t:=fun S S' hS=>by
    simp only[St.eff]
    cases hc:zAL ops m with
    |none=>exact hS
    | some d=>
      by_cases e1:t=d
      ·subst e1;exact(zAn _ _ _).trans (zAn _ _ _).symm
      ·exact(zX _ _ e1).trans (hS.trans (zX _ _ e1).symm)
   unfold zAg
   cases h1:L m<;>cases h2:L' m<;>simp only[cond_true,cond_false]
   ·exact ih
   ·exact ih.trans (key (h m (by omega) (by simp[h1,h2])) _).symm
   ·exact(key (h m (by omega) (by simp[h1,h2])) _).trans ih
   ·exact same _ _ ih
theorem zEQ{hs:List (Nat×Option AB)}{h:Nat→Option AB}{id:Nat}(hn:id∉hs.map (·.1)):zAb hs h id=h id:=by
 induction hs with
 |nil=>rfl
 | cons p hs ih=>
   simp only[List.map_cons,List.mem_cons,not_or]at hn
   exact(zX _ _ hn.1).trans (ih hn.2)
theorem zI8{hs:List (Nat×Option AB)}{h h':Nat→Option AB}{id:Nat}(hn:id∈hs.map (·.1)):zAb hs h id=zAb hs h' id:=by
 induction hs with
 |nil=>simp at hn
 | cons p hs ih=>
   by_cases hc:id=p.1
   ·subst hc;exact(zAn _ _ _).trans (zAn _ _ _).symm
   ·simp only[List.map_cons,List.mem_cons]at hn
    exact(zX _ _ hc).trans ((ih (hn.resolve_left hc)).trans (zX _ _ hc).symm)
theorem zH5{id:Nat}:∀m,(∀k,k<m→L k≠L' k→id∉(e k).hs.map (·.1))→(zAg ops e S0 L m).h id=(zAg ops e S0 L' m).h id
 |0,_=>rfl
 | m+1,h=>by
   have ih:=zH5 m fun k hk=>h k (by omega)
   have key:id∉(e m).hs.map (·.1)→∀S:St,(S.eff (zAL ops m) (e m)).h id=S.h id:=fun hd S=>zEQ hd
   have same:∀S S':St,S.h id=S'.h id→(S.eff (zAL ops m) (e m)).h id=(S'.eff (zAL ops m) (e m)).h id:=fun S S' hS=>by
    by_cases hc:id∈(e m).hs.map (·.1)
    ·exact zI8 hc
    ·exact(zEQ hc).trans (hS.trans (zEQ hc).symm)
   unfold zAg
   cases h1:L m<;>cases h2:L' m<;>simp only[cond_true,cond_false]
   ·exact ih
   ·exact ih.trans (key (h m (by omega) (by simp[h1,h2])) _).symm
   ·exact(key (h m (by omega) (by simp[h1,h2])) _).trans ih
   ·exact same _ _ ih
theorem zH4{id:Nat}:∀m,(∀k,k<m→L k≠L' k→id∉(e k).al)→(zAg ops e S0 L m).fr id=(zAg ops e S0 L' m).fr id
 |0,_=>rfl
 | m + 1,h=>by
   have ih:=zH4 m fun k hk=>h k (by omega)
   have key:id∉(e m).al→∀S:St,(S.eff (zAL ops m) (e m)).fr id=S.fr id:=fun hd S=>by
    have:(e m).al.any (Nat.beq id)=false:=by
     cases hc:(e m).al.any (Nat.beq id)with
     |false=>rfl
     | true=>
       obtain⟨x,hx,hb⟩:=List.any_eq_true.1 hc
       exact absurd (Nat.eq_of_beq_eq_true hb▸hx) hd
    simp[St.eff,this]
   unfold zAg
   cases h1:L m<;>cases h2:L' m<;>simp only[cond_true,cond_false]
   ·exact ih
   ·exact ih.trans (key (h m (by omega) (by simp[h1,h2])) _).symm
   ·exact(key (h m (by omega) (by simp[h1,h2])) _).trans ih
   ·simp only[St.eff,ih]

theorem zQl{i:Nat}(hi:L i=false)(hL:∀k,L' k=(L k||Nat.beq k i))(n:Nat)(hin:i<n)
 (ht:∀k t,i<k→L k=true→zAL ops i=some t→zAL ops k≠some t) (hh:∀k id,i<k→L k=true→id∈(e i).hs.map (·.1)→id∉(e k).hs.map (·.1)):
 zAg ops e S0 L' n=(zAg ops e S0 L n).eff (zAL ops i) (e i):=by
 have hdiff:∀k,L' k≠L k→k=i:=fun k hk=>by
  rw[hL k]at hk
  cases hb:Nat.beq k i with
  |true=>exact Nat.eq_of_beq_eq_true hb
  |false=>rw[hb,Bool.or_false]at hk;exact absurd rfl hk
 have hLi:L' i=true:=by rw[hL,Nat.beq_refl,Bool.or_true]
 have h1 :(zAg ops e S0 L' n).t=((zAg ops e S0 L n).eff (zAL ops i) (e i)).t:=by
  funext t
  by_cases hd:zAL ops i=some t
  ·have up:∀m,i<m→(zAg ops e S0 L' m).t t=some (e i).x:=by
    intro m
    induction m with
    |zero=>omega
    | succ m ih=>
      intro hm;unfold zAg;by_cases hmi:m=i
      ·subst hmi
       rw[hLi]
       simp only[cond_true,St.eff,hd]
       exact zAn _ _ _
      ·have hm':i<m:=by omega
       cases hl:L' m with
       |false=>exact ih hm'
       | true=>
         have hLm:L m=true:=by
          cases hc:L m with
          |true=>rfl
          |false=>exact absurd (hdiff m (by rw[hl,hc];simp)) hmi
         have hne:=ht m t hm' hLm hd
         simp only[cond_true,St.eff]
         cases hc:zAL ops m with
         |none=>exact ih hm'
         |some d=>exact(zX _ _ fun e=>hne (by rw[hc,e])).trans (ih hm')
   rw[up n hin]
   simp only[St.eff,hd]
   exact(zAn _ _ _).symm
  ·rw[zH7 (L':=L) n fun k _ hk=>by rw[hdiff k hk];exact hd]
   simp only[St.eff]
   cases hc:zAL ops i with
   |none=>rfl
   |some d=>exact(zX _ _ fun e=>hd (by rw[hc,e])).symm
 have h2 :(zAg ops e S0 L' n).h=((zAg ops e S0 L n).eff (zAL ops i) (e i)).h:=by
  funext id
  by_cases hd:id∈(e i).hs.map (·.1)
  ·have up:∀m,i<m→(zAg ops e S0 L' m).h id=zAb (e i).hs (fun _=>none) id:=by
    intro m
    induction m with
    |zero=>omega
    | succ m ih=>
      intro hm;unfold zAg;by_cases hmi:m=i
      ·subst hmi
       rw[hLi]
       simp only[cond_true,St.eff]
       exact zI8 hd
      ·have hm':i<m:=by omega
       cases hl:L' m with
       |false=>exact ih hm'
       | true=>
         have hLm:L m=true:=by
          cases hc:L m with
          |true=>rfl
          |false=>exact absurd (hdiff m (by rw[hl,hc];simp)) hmi
         exact(zEQ (hh m id hm' hLm hd)).trans (ih hm')
   rw[up n hin];exact zI8 hd
  ·rw[zH5 (L':=L) n fun k _ hk=>by rw[hdiff k hk];exact hd]
   exact(zEQ hd).symm
 have h3:(zAg ops e S0 L' n).fr=((zAg ops e S0 L n).eff (zAL ops i) (e i)).fr:=by
  funext id
  have base:∀m,m≤i→(zAg ops e S0 L' m).fr id=(zAg ops e S0 L m).fr id:=fun m hm=>zH4 m fun k hk hne=>by have:=hdiff k hne;omega
  have up:∀m,i<m→(zAg ops e S0 L' m).fr id=((zAg ops e S0 L m).fr id && !((e i).al.any (Nat.beq id))):=by
   intro m
   induction m with
   |zero=>omega
   | succ m ih=>
     intro hm;unfold zAg;by_cases hmi:m=i
     ·subst hmi
      rw[hLi,hi]
      simp only[cond_true,cond_false,St.eff]
      rw[base m (Nat.le_refl _)]
     ·have hm':i<m:=by omega
      have hl:L' m=L m:=by
       cases hc:decide (L' m=L m)with
       |true=>exact of_decide_eq_true hc
       |false=>exact absurd (hdiff m (of_decide_eq_false hc)) hmi
      rw[hl]
      cases L m with
      |false=>exact ih hm'
      | true=>
        simp only[cond_true,St.eff]
        rw[ih hm',Bool.and_assoc,Bool.and_comm (!((e i).al.any (Nat.beq id))),←Bool.and_assoc]
  exact up n hin
 have h4:(zAg ops e S0 L' n).n=((zAg ops e S0 L n).eff (zAL ops i) (e i)).n:=by
  rw[zFJ];show S0.n=(zAg ops e S0 L n).n;rw[zFJ]
 have h5:(zAg ops e S0 L' n).ln=((zAg ops e S0 L n).eff (zAL ops i) (e i)).ln:=by
  rw[zIU];show S0.ln=(zAg ops e S0 L n).ln;rw[zIU]
 have h6:(zAg ops e S0 L' n).G=((zAg ops e S0 L n).eff (zAL ops i) (e i)).G:=by
  rw[zFI];show S0.G=(zAg ops e S0 L n).G;rw[zFI]
 have h7:(zAg ops e S0 L' n).gs=((zAg ops e S0 L n).eff (zAL ops i) (e i)).gs:=by
  rw[zIT];show S0.gs=(zAg ops e S0 L n).gs;rw[zIT]
 have h8:(zAg ops e S0 L' n).dd=((zAg ops e S0 L n).eff (zAL ops i) (e i)).dd:=by
  rw[zIS];show S0.dd=(zAg ops e S0 L n).dd;rw[zIS]
 cases hx:zAg ops e S0 L' n
 cases hy:(zAg ops e S0 L n).eff (zAL ops i) (e i)
 rw[hx,hy]at h1 h2 h3 h4 h5 h6 h7 h8
 cases h1;cases h2;cases h3;cases h4;cases h5;cases h6;cases h7;cases h8;rfl
end

def zCU(o:Oper):List Nat:=(o.after.toList.filter (Region.binds .any)).map (·.on)
def zI9(M:List Nat)(ds:List Nat):Nat:=ds.foldl (fun m d=>m ||| (1 <<< d) ||| M.getD d 0) 0
def zMN:List Oper→List Nat→List Nat
 | [],M=>M
 |o::r,M=>zMN r (M++ [zI9 M (zCU o)])
def zEt(ops:Array Oper)(a b:Oper)(fa fb:List Nat×List Nat):Bool:=
 a.apart ops b && fa.2.all (fun x=> !(fb.1.any (Nat.beq x)) && !(fb.2.any (Nat.beq x))) && fa.1.all (fun x=> !(fb.2.any (Nat.beq x)))
def zFV(ops:Array Oper)(M:List Nat)(fps:List (List Nat×List Nat))(j:Nat)(b:Oper):Nat→Bool
 |0=>true
 |i+1=>zFV ops M fps j b i && (Nat.testBit (M.getD j 0) i||(match ops[i]? with|some a=>zEt ops a b (fps.getD i ([],[])) (fps.getD j ([],[]))|none=>false))
def zJi(ops:Array Oper)(M:List Nat)(fps:List (List Nat×List Nat))(j:Nat):Bool:=
 match ops[j]? with
 |some o=>(zCU o).all (fun d=>Nat.blt d j) && Nat.beq (M.getD j 0) (zI9 M (zCU o)) && zFV ops M fps j o j
 |none=>false
def zFW(ops:Array Oper)(M:List Nat)(fps:List (List Nat×List Nat)):Nat→Bool
 |0=>true
 |j+1=>zFW ops M fps j && zJi ops M fps j
def zFU(ops:Array Oper)(fps:List (List Nat×List Nat)):Bool:=Region.noSelect ops && zFW ops (zMN ops.toList []) fps ops.size

theorem zLh{M:List Nat}{i:Nat}:∀(ds:List Nat) (m:Nat),Nat.testBit (ds.foldl (fun m d=>m ||| (1 <<< d) ||| M.getD d 0) m) i=true→Nat.testBit m i=true∨∃d∈ds,d=i∨Nat.testBit (M.getD d 0) i=true
 | [],m,h=>.inl h
 | d::ds,m,h=>by
   rcases zLh ds _ h with h|⟨d',h1,h2⟩
   ·rw[Nat.testBit_or,Nat.testBit_or,Nat.shiftLeft_eq,Nat.one_mul,Nat.testBit_two_pow]at h
    simp only[Bool.or_eq_true,decide_eq_true_eq]at h
    rcases h with (h|h)|h
    ·exact .inl h
    ·exact .inr ⟨d,by simp,.inl h⟩
    ·exact .inr ⟨d,by simp,.inr h⟩
   ·exact .inr ⟨d',by simp[h1],h2⟩
theorem zM2{ops:Array Oper}{M:List Nat}{fps:List (List Nat×List Nat)}{j:Nat}{b:Oper}:∀{n:Nat},zFV ops M fps j b n=true→∀i,i<n→Nat.testBit (M.getD j 0) i=true∨∃a,ops[i]?=some a∧zEt ops a b (fps.getD i ([],[])) (fps.getD j ([],[]))=true
 | n +1,h,i,hi=>by
   unfold zFV at h;rw[Bool.and_eq_true,Bool.or_eq_true]at h;by_cases hin:i=n
   ·subst hin
    rcases h.2 with h2|h2
    ·exact .inl h2
    ·cases ho:ops[i]? with
     |none=>rw[ho]at h2;cases h2
     |some a=>rw[ho]at h2;exact .inr ⟨a,rfl,h2⟩
   ·exact zM2 h.1 i (by omega)
theorem zM3{ops:Array Oper}{M:List Nat}{fps:List (List Nat×List Nat)}:∀{n:Nat},zFW ops M fps n=true→∀j,j<n→zJi ops M fps j=true
 | n+1,h,j,hj=>by
   unfold zFW at h;rw[Bool.and_eq_true]at h;by_cases hjn:j=n
   ·subst hjn;exact h.2
   ·exact zM3 h.1 j (by omega)
structure zKH(ops:Array Oper)(M:List Nat)(fps:List (List Nat×List Nat)):Prop where
 lt:∀j o,ops[j]?=some o→∀d∈zCU o,d<j
 up:∀j o,ops[j]?=some o→∀i,Nat.testBit (M.getD j 0) i=true→∃d∈zCU o,d=i∨Nat.testBit (M.getD d 0) i=true
 ind:∀j b,ops[j]?=some b→∀i,i<j→Nat.testBit (M.getD j 0) i=true∨∃a,ops[i]?=some a∧zEt ops a b (fps.getD i ([],[])) (fps.getD j ([],[]))=true
theorem zQA{ops:Array Oper}{M:List Nat}{fps:List (List Nat×List Nat)}(h:zFW ops M fps ops.size=true):zKH ops M fps:=by
 have row:∀j o,ops[j]?=some o→((zCU o).all (fun d=>Nat.blt d j)=true∧Nat.beq (M.getD j 0) (zI9 M (zCU o))=true)∧zFV ops M fps j o j=true:=fun j o ho=>by
  have:=zM3 h j (Array.getElem?_eq_some_iff.1 ho).1;unfold zJi at this;rw[ho]at this
  simpa[Bool.and_eq_true]using this
 refine⟨fun j o ho d hd=> ?_,fun j o ho i hi=> ?_,fun j b hb i hi=>zM2 (row j b hb).2 i hi⟩
 ·have:=List.all_eq_true.1 (row j o ho).1.1 d hd
  exact Nat.blt_eq.mp this
 ·rw[Nat.eq_of_beq_eq_true (row j o ho).1.2]at hi
  rcases zLh (zCU o) 0 hi with h|h
  ·simp at h
  ·exact h
theorem mem_deps{o:Oper}{d:Nat}:d∈zCU o↔∃e∈o.after,Region.binds .any e=true∧e.on=d:=by
 unfold zCU
 simp only[List.mem_map,List.mem_filter,Array.mem_toList_iff]
 exact⟨fun ⟨e,⟨h1,h2⟩,h3⟩=>⟨e,h1,h2,h3⟩,fun ⟨e,h1,h2,h3⟩=>⟨e,⟨h1,h2⟩,h3⟩⟩

theorem zIQ{ops:Array Oper}{e:Nat→Eff}{S0:St}{L L':Nat→Bool}:∀m,(∀k,k<m→L k=L' k)→zAg ops e S0 L m=zAg ops e S0 L' m
 |0,_=>rfl
 |m+1,h=>by unfold zAg;rw[h m (by omega),zIQ m fun k hk=>h k (by omega)]
theorem zMg{ops:Array Oper}{e:Nat→Eff}{S0:St}{i:Nat}:∀m,i≤m→zAg ops e S0 (fun k=>Nat.blt k i) m=zAg ops e S0 (fun _=>true) i
 | 0, h => by obtain rfl:i=0:=by omega
              rfl
 | m+1,h=>by
   by_cases hi:i=m+1
   ·subst hi
    exact zIQ _ fun k hk=>Nat.blt_eq.mpr hk
   ·refine Eq.trans ?_ (zMg m (by omega))
    show(bif Nat.blt m i then _ else _)=_
    rw[show Nat.blt m i=false from Bool.eq_false_iff.2 fun h=>by have:=Nat.blt_eq.mp h;omega]
    rfl

def zCr(l:Array Bool):Nat→Nat
 |0=>0
 |m+1=>zCr l m+bif l.getD m true then 0 else 1
theorem zIt{l:Array Bool}:∀m,zCr l m=0→∀k,k<m→l.getD k true=true
 | m+1,h,k,hk=>by
   unfold zCr at h;by_cases hkm:k=m
   ·subst hkm
    cases hc:l.getD k true with
    |true=>rfl
    |false=>rw[hc]at h;simp at h
   ·exact zIt m (by omega) k (by omega)
theorem zLL{l:Array Bool}:∀m,(∀k,k<m→l.getD k true=true)→zCr l m=0
 |0,_=>rfl
 |m+1,h=>by unfold zCr;rw[zLL m fun k hk=>h k (by omega),h m (by omega)];rfl
theorem zIX{l:Array Bool}{i k:Nat}(hi:i<l.size)(d:Bool):(l.setIfInBounds i true).getD k d=if k=i then true else l.getD k d:=by
 simp only[Array.getD_eq_getD_getElem?]
 by_cases e:k=i
 ·subst e;simp[hi]
 ·rw[if_neg e,Array.getElem?_setIfInBounds_ne (Ne.symm e)]
theorem zLM{l:Array Bool}{i:Nat}(hi:i<l.size)(hu:l.getD i true=false):∀m,zCr (l.setIfInBounds i true) m=zCr l m-bif Nat.blt i m then 1 else 0
 |0=>rfl
 | m +1=>by
   unfold zCr;rw[zLM hi hu m,zIX hi];by_cases hm:m=i
   ·subst hm
    rw[if_pos rfl,hu,show Nat.blt m m=false from Bool.eq_false_iff.2 fun h=>by have:=Nat.blt_eq.mp h;omega,show Nat.blt m (m+1)=true from Nat.blt_eq.mpr (by omega)]
    simp
   ·rw[if_neg hm]
    have hpos:i<m→0<zCr l m:=fun h=>by
     rcases Nat.eq_zero_or_pos (zCr l m)with h0|h0
     ·have:=zIt m h0 i h;rw[this]at hu;cases hu
     ·exact h0
    by_cases him:i<m
    ·rw[show Nat.blt i m=true from Nat.blt_eq.mpr him,show Nat.blt i (m+1)=true from Nat.blt_eq.mpr (by omega)]
     have:=hpos him
     simp only[cond_true]
     cases l.getD m true<;>simp only[cond_true,cond_false]<;>omega
    ·rw[show Nat.blt i m=false from Bool.eq_false_iff.2 fun h=>by have:=Nat.blt_eq.mp h;omega,show Nat.blt i (m+1)=false from Bool.eq_false_iff.2 fun h=>by have:=Nat.blt_eq.mp h;omega]
     simp
theorem zLK(n:Nat):∀m,m≤n→zCr (Array.replicate n false) m=m
 |0,_=>rfl
 | m+1,h=>by
   unfold zCr;rw[zLK n m (by omega),show(Array.replicate n false).getD m true=false by simp[Array.getD_eq_getD_getElem?,show m<n by omega]]
   rfl

theorem zDJ{ops:Array Oper}{a b:Oper}{fa fb:List Nat×List Nat}(h:zEt ops a b fa fb=true):
 ((∀d,a.dst=some d→d∉b.looksAt ops)∧(∀d,a.dst=some d→b.dst≠some d)∧(∀d,b.dst=some d→d∉a.looksAt ops))∧
 (∀x∈fa.2,x∉fb.1∧x∉fb.2)∧(∀x∈fa.1,x∉fb.2):=by
 unfold zEt at h;rw[Bool.and_eq_true,Bool.and_eq_true]at h;have no:∀(l:List Nat) (x:Nat),l.any (Nat.beq x)=false→x∉l:=fun l x h hx=>by
  have:l.any (Nat.beq x)=true:=List.any_eq_true.2 ⟨x,hx,Nat.beq_refl x⟩;rw[this]at h;cases h
 refine⟨Oper.apart_spec h.1.1,fun x hx=> ?_,fun x hx=> ?_⟩
 ·have:=List.all_eq_true.1 h.1.2 x hx
  simp only[Bool.and_eq_true,Bool.not_eq_true']at this
  exact⟨no _ _ this.1,no _ _ this.2⟩
 ·have:=List.all_eq_true.1 h.2 x hx
  simp only[Bool.not_eq_true']at this
  exact no _ _ this

def zDP(rd:Nat→List Nat)(e:Nat→Eff)(i:Nat):List Nat×List Nat:=(rd i++(e i).al,(e i).hs.map (·.1)++(e i).al)

theorem zPq{r0:Option Nat}{ops:Array Oper}{Q:Exit→Act→World→Prop}{w0:zN}{rd:Nat→List Nat}{e:Nat→Eff}{S0:St}{M:List Nat}{fps:List (List Nat×List Nat)}(G:zKH ops M fps)
 (hfp:∀i,i<ops.size→fps.getD i ([],[])=zDP rd e i) (hst:∀i o,ops[i]?=some o→LStep P ops o (rd i) (e i) (zAg ops e S0 (fun _=>true) i))
 (hQ:∀a w,Rel w0 (zAg ops e S0 (fun _=>true) ops.size) a w→Q .normal a w):
 ∀ (fuel:Nat) (l:Array Bool) (a:Act) (w:World),l.size=ops.size→zCr l ops.size=fuel→(∀j o,ops[j]?=some o→l.getD j false=true→∀d∈zCU o,l.getD d false=true)→
   Rel w0 (zAg ops e S0 (fun k=>l.getD k false) ops.size) a w→wpAnyIn (fnc r0) 0 P .any ops Q fuel l a w:=by
 have tf:∀(l:Array Bool) (k:Nat),l.size=ops.size→k<ops.size→l.getD k true=l.getD k false:=fun l k hl hk=>by
  simp[Array.getD_eq_getD_getElem?,hl,hk]
 have full:∀l:Array Bool,l.size=ops.size→Region.ready .any ops l= []→∀k,k<ops.size→l.getD k true=true:=fun l hl h0 k=>by
  induction k using Nat.strongRecOn with
  | _ k ih=>
    intro hk
    cases hc:l.getD k true with
    |true=>rfl
    | false=>
      have ho:ops[k]?=some ops[k]:=Array.getElem?_eq_getElem hk;have:k∈Region.ready .any ops l:=mem_ready.2 ⟨hc,ops[k],ho,fun ed he hb=>by
       have hd:=G.lt k _ ho ed.on (mem_deps.2 ⟨ed,he,hb,rfl⟩);rw[←tf l ed.on hl (by omega)];exact ih ed.on hd (by omega)⟩
      rw[h0]at this
      cases this
 intro fuel
 induction fuel with
 | zero=>
   intro l a w hl hc _ hR;have hall:=zIt ops.size hc
   refine⟨List.eq_nil_iff_forall_not_mem.2 fun i hi=> ?_,hQ a w ?_⟩
   ·obtain⟨hun,o,ho,_⟩:=mem_ready.1 hi
    rw[hall i (Array.getElem?_eq_some_iff.1 ho).1]at hun
    cases hun
   ·rwa [zIQ (L':=fun _=>true) _ fun k hk=>by rw[←tf l k hl hk];exact hall k hk]at hR
 | succ fuel ih=>
   intro l a w hl hc hcl hR
   refine⟨fun h0=> ?_,fun i hi=> ?_⟩
   ·have:=zLL ops.size (full l hl h0)
    omega
   ·obtain⟨hun,o,ho,hall⟩:=mem_ready.1 hi
    have hin:i<ops.size:=(Array.getElem?_eq_some_iff.1 ho).1;have hLi:l.getD i false=false:=by rw[←tf l i hl hin];exact hun
    have clM:∀j,j<ops.size→∀i,Nat.testBit (M.getD j 0) i=true→l.getD j false=true→l.getD i false=true:=fun j=>by
     induction j using Nat.strongRecOn with
     | _ j ihj=>
       intro hj i hb hlj;have hoj:ops[j]?=some ops[j]:=Array.getElem?_eq_getElem hj
       obtain⟨d,hd,h⟩:=G.up j _ hoj i hb
       have hld:=hcl j _ hoj hlj d hd
       rcases h with rfl|h
       ·exact hld
       ·have:=G.lt j _ hoj d hd
        exact ihj d this (by omega) i h hld
    have before:∀k,k<i→l.getD k false=false→∃b,ops[k]?=some b∧zEt ops b o (zDP rd e k) (zDP rd e i)=true:=fun k hk hlk=>by
     rcases G.ind i o ho k hk with h|⟨b,hb,hind⟩
     ·obtain⟨d,hd,h⟩:=G.up i o ho k h
      obtain⟨ed,he,hbd,rfl⟩:=mem_deps.1 hd
      have hld:=hall ed he hbd;have hdi:=G.lt i o ho ed.on hd;have:l.getD k false=true:=by
       rcases h with h|h
       ·rw[←h];exact hld
       ·exact clM ed.on (by omega) k h hld
      rw[this]at hlk;cases hlk
     ·rw[hfp k (by omega),hfp i hin]at hind
      exact⟨b,hb,hind⟩
    have behind:∀k,i<k→k<ops.size→l.getD k false=true→∃b,ops[k]?=some b∧zEt ops o b (zDP rd e i) (zDP rd e k)=true:=fun k hk hkn hlk=>by
     have hok:ops[k]?=some ops[k]:=Array.getElem?_eq_getElem hkn
     rcases G.ind k _ hok i hk with h|⟨b,hb,hind⟩
     ·have:=clM k hkn i h hlk
      rw[this]at hLi;cases hLi
     ·rw[ho]at hb
      cases hb
      rw[hfp k (by omega),hfp i hin]at hind
      exact⟨_,hok,hind⟩
    have dk:∀{k:Nat} {b:Oper},ops[k]?=some b→zAL ops k=b.dst:=fun hb=>by unfold zAL;rw[hb];rfl
    have hbl:∀k,k<ops.size→l.getD k false≠Nat.blt k i→(k<i∧l.getD k false=false)∨(i<k∧l.getD k false=true):=fun k hk hne=>by
     rcases Nat.lt_trichotomy k i with h|h|h
     ·rw[Nat.blt_eq.mpr h]at hne
      exact .inl ⟨h,by simpa using hne⟩
     ·subst h
      rw[hLi,show Nat.blt k k=false from Bool.eq_false_iff.2 fun h=>by have:=Nat.blt_eq.mp h;omega]at hne
      exact absurd rfl hne
     ·rw[show Nat.blt k i=false from Bool.eq_false_iff.2 fun h'=>by have:=Nat.blt_eq.mp h';omega]at hne
      exact .inr ⟨h,by simpa using hne⟩
    have hT:=zMg (ops:=ops) (e:=e) (S0:=S0) (i:=i) ops.size (by omega);have hL:=hst i o ho;rw[←hT]at hL;have hadd:zAg ops e S0 (fun k=>(l.setIfInBounds i true).getD k false) ops.size=(zAg ops e S0 (fun k=>l.getD k false) ops.size).eff (zAL ops i) (e i):=by
     have zFO:∀k,(l.setIfInBounds i true).getD k false=(l.getD k false||Nat.beq k i):=fun k=>by
      rw[zIX (by omega)];by_cases hki:k=i
      ·subst hki;simp[Nat.beq_refl]
      ·rw[if_neg hki,show Nat.beq k i=false from Bool.eq_false_iff.2 fun h=>hki (Nat.eq_of_beq_eq_true h),Bool.or_false]
     refine zQl (L:=fun k=>l.getD k false) (L':=fun k=>(l.setIfInBounds i true).getD k false) (i:=i) hLi zFO ops.size hin (fun k t hk hlk hd=> ?_) (fun k id hk hlk hd=> ?_)
     ·have hkn:k<ops.size:=by
       rcases Nat.lt_or_ge k ops.size with h|h
       ·exact h
       ·simp[Array.getD_eq_getD_getElem?,Array.getElem?_eq_none (show l.size≤k by omega)]at hlk
      obtain⟨b,hb,hind⟩:=behind k hk hkn hlk
      rw[dk ho]at hd;rw[dk hb]
      exact(zDJ hind).1.2.1 t hd
     ·have hkn:k<ops.size:=by
       rcases Nat.lt_or_ge k ops.size with h|h
       ·exact h
       ·simp[Array.getD_eq_getD_getElem?,Array.getElem?_eq_none (show l.size≤k by omega)]at hlk
      obtain⟨b,hb,hind⟩:=behind k hk hkn hlk
      have:=((zDJ hind).2.1 id (by unfold zDP;exact List.mem_append_left _ hd)).2
      unfold zDP at this;exact fun h=>this (List.mem_append_left _ h)
    have hloc:=hL (zAg ops e S0 (fun k=>l.getD k false) ops.size) ⟨by rw[zFJ,zFJ],by rw[zFI,zFI]⟩
     (fun t ht=>zH7 _ fun k hk hne=>by
       rcases hbl k hk hne with ⟨h1,h2⟩|⟨h1,h2⟩
       ·obtain⟨b,hb,hind⟩:=before k h1 h2
        rw[dk hb];exact fun hd=>(zDJ hind).1.1 t hd ht
       ·obtain⟨b,hb,hind⟩:=behind k h1 hk h2
        rw[dk hb];exact fun hd=>(zDJ hind).1.2.2 t hd ht)
     (fun id hid=>zH5 _ fun k hk hne=>by
       rcases hbl k hk hne with ⟨h1,h2⟩|⟨h1,h2⟩
       ·obtain⟨b,hb,hind⟩:=before k h1 h2
        exact fun h=>((zDJ hind).2.1 id (List.mem_append_left _ h)).1 (List.mem_append_left _ hid)
       ·obtain⟨b,hb,hind⟩:=behind k h1 hk h2
        exact fun h=>(zDJ hind).2.2 id (List.mem_append_left _ hid) (List.mem_append_left _ h))
     (fun id hid=>zH4 _ fun k hk hne=>by
       rcases hbl k hk hne with ⟨h1,h2⟩|⟨h1,h2⟩
       ·obtain⟨b,hb,hind⟩:=before k h1 h2
        exact fun h=>((zDJ hind).2.1 id (List.mem_append_right _ h)).1 (List.mem_append_right _ hid)
       ·obtain⟨b,hb,hind⟩:=behind k h1 hk h2
        exact fun h=>(zDJ hind).2.2 id (List.mem_append_right _ hid) (List.mem_append_right _ h))
     w0 a w hR
    rw[dk ho]at hadd;have nxt:∀a' w',Rel w0 ((zAg ops e S0 (fun k=>l.getD k false) ops.size).eff o.dst (e i)) a' w'→wpAnyIn (fnc r0) 0 P .any ops Q fuel (l.setIfInBounds i true) a' w':=fun a' w' hR'=>by
     refine ih _ a' w' (by simpa using hl) ?_ (fun j b hb hlj d hd=> ?_) (by rw[hadd];exact hR')
     ·rw[zLM (by omega) hun,show Nat.blt i ops.size=true from Nat.blt_eq.mpr hin]
      simp only[cond_true]
      omega
     ·rw[zIX (by omega)]at hlj⊢
      by_cases hdi:d=i
      ·rw[if_pos hdi]
      ·rw[if_neg hdi]
       by_cases hji:j=i
       ·subst hji
        rw[ho]at hb
        cases hb
        obtain⟨ed,he,hbd,rfl⟩:=mem_deps.1 hd
        exact hall ed he hbd
       ·rw[if_neg hji]at hlj
        exact hcl j b hb hlj d hd
    unfold wpOpIn
    simp only[ho]
    rcases hloc with ⟨hw,hg⟩|⟨hw,hR'⟩
    ·rw[if_pos hw]
     exact hg.wpIn fun v w' hR'=>nxt _ _ hR'
    ·rw[if_neg (by simp[hw])]
     exact⟨fun _ _=>trivial,nxt _ _ hR'⟩

theorem zIR{o:Oper}{l:List Oper}{e:Nat→Eff}{S:St}:∀m,zAg (o::l).toArray e S (fun _=>true) (m+1)=zAg l.toArray (fun k=>e (k+1)) (S.eff o.dst (e 0)) (fun _=>true) m
 |0=>by simp[zAg,zAL]
 | m+1=>by
   rw[zAg,zIR m]
   simp[zAg,zAL]
theorem zKZ{ops:Array Oper}{Q:List (List Nat×List Nat)→St→Prop}:∀(l:List Oper) (acc:List (List Nat×List Nat)) (S:St),zDG P ops l acc S Q→
 ∃ (rd:Nat→List Nat) (e:Nat→Eff) (fps:List (List Nat×List Nat)),(∀i o,l[i]?=some o→LStep P ops o (rd i) (e i) (zAg l.toArray e S (fun _=>true) i))∧(∀i,i<l.length→fps.getD i ([],[])=zDP rd e i)∧
   Q (acc.reverse++fps) (zAg l.toArray e S (fun _=>true) l.length)
 | [],acc,S,h=>⟨fun _=> [],fun _=>⟨.tu [],[],[]⟩,[],fun i o h=>by simp at h,fun i h=>by simp at h,by simpa[zAg,zDG]using h⟩
 | o::l,acc,S,⟨rd,e,hs,hk⟩=>by
   obtain⟨rd',e',fps,h1,h2,h3⟩:=zKZ l _ _ hk
   let rd2:Nat→List Nat:=fun i=>match i with|0=>rd|i+1=>rd' i
   let e2:Nat→Eff:=fun i=>match i with|0=>e|i+1=>e' i
   refine⟨rd2,e2,(rd++e.al,e.hs.map (·.1)++e.al)::fps,fun i o' ho=> ?_,fun i hi=> ?_,?_⟩
   ·cases i with
    | zero=>
      obtain rfl:o=o':=by simpa using ho
      exact hs
    | succ i=>
      rw[zIR];exact h1 i o' (by simpa using ho)
   ·cases i with
    |zero=>rfl
    |succ i=>exact h2 i (by simpa using hi)
   ·rw[List.length_cons,zIR]
    simpa using h3

theorem zSZ{r0:Option Nat}{id:Nat}{Q:Exit→Act→World→Prop}{QS:St→Prop}{w0:zN}{l:List Oper}{S:St}{a:Act}{w:World}(hm:P.follows .mixedOrders=true)
 (h:AList P l.toArray l [] S (fun fps S'=>zFU l.toArray fps=true∧QS S')) (hR:Rel w0 S a w) (hQ:∀S a w,QS S→Rel w0 S a w→Q .normal a w):(Code.region id l.toArray true).wpIn (fnc r0) 0 P Q a w:=by
 obtain⟨rd,e,fps,h1,h2,h3,h4⟩:=zKZ l [] S h.get
 simp only[List.reverse_nil,List.nil_append,zFU,Bool.and_eq_true]at h3
 refine wpIn_region_any hm (zPq (w0:=w0) (S0:=S) (rd:=rd) (e:=e) (zQA h3.2) (fun i hi=>h2 i (by simpa using hi)) (fun i o ho=>h1 i o (by simpa using ho)) (fun a w hR=>hQ _ a w h4 (by simpa using hR)) l.toArray.size _ a _ (by simp) (zLK _ _ (Nat.le_refl _)) ?_ ?_)
 ·intro j o ho hj
  exfalso
  have h0:(Array.replicate l.toArray.size false).getD j false=false:=by simp[Array.getD_eq_getD_getElem?,Array.getElem?_replicate];split<;>rfl
  rw[h0]at hj
  cases hj
 ·obtain⟨σ,hR⟩:=hR
  have hz:zAg l.toArray e S (fun k=>(Array.replicate l.toArray.size false).getD k false) l.toArray.size=S:=by
   have:∀m,zAg l.toArray e S (fun k=>(Array.replicate l.toArray.size false).getD k false) m=S:=by
    intro m
    induction m with
    |zero=>rfl
    | succ m ih=>
      unfold zAg;rw[show(Array.replicate l.toArray.size false).getD m false=false by simp[Array.getD_eq_getD_getElem?,Array.getElem?_replicate];split<;>rfl]
      exact ih
   exact this _
  rw[hz]
  exact⟨σ,hR.drew (Ext.refl w).drew⟩
theorem zS0{r0:Option Nat}{id:Nat}{Q:Exit→Act→World→Prop}{QS:St→Prop}{w0:zN}{l:List Oper}{S:St}{a:Act}{w:World}
 (h:AList P l.toArray l [] S (fun _ S'=>QS S')) (hR:Rel w0 S a w) (hQ:∀S a w,QS S→Rel w0 S a w→Q .normal a w):(Code.region id l.toArray false).wpIn (fnc r0) 0 P Q a w:=
 wpIn_region_lit (zJW l [] S a w h.get hR fun _ S a w=>hQ S a w)
end
end Go.AV
end
