/- Parts of the proof: ACut, A28f, A28g, A28h, A28k, A28l, A28m, A28q. -/
import Derived.Test.YtbffmfeldkjkcaaGreatG25
import Derived.DeepKeys4
set_option linter.unusedSimpArgs false
set_option linter.unusedVariables false
set_option maxHeartbeats 0
set_option maxRecDepth 100000
section
namespace Go.AV
open Go Go.RowKit Go.Flow
theorem AWp.cut{P:Program}{x:Code}{Q:Exit→St→Prop}{S:St}(S1:St)(h:AWp P x (fun e S'=>e=.normal∧Wk S' S1) S)(hz:∀S',Wk S' S1→Q .normal S'):AWp P x Q S:=
 h.mono fun e S' h=>by obtain⟨rfl,hw⟩:=h;exact hz S' hw
end Go.AV
end
section
namespace Go.Proofs.YtbffmfeldkjkcaaGreat
open Go.RowKit Go.Flow Go.AV Go.Plain
structure Pb where
 R:List Rd
 C:List (List Bp)
 F:List Bp
 O:List Bg
 T:List Bg
theorem zAF(r:Rd):(rdC r).all zM=true:=rfl
theorem zAm(b:Bp):(bpC b).all zM=true:=rfl
theorem zU(b:Bg):(bgC b).all zM=true:=rfl
abbrev lsR(L:List Rd):CV:=.ls L.length 2 (zS rdC rdZ L)
abbrev lsB(L:List Bp):CV:=.ls L.length 3 (zS bpC bpZ L)
abbrev lsG(L:List Bg):CV:=.ls L.length 4 (zS bgC bgZ L)
abbrev chF(C:List (List Bp))(k _:Nat):CV:=lsB (C.getD k [])
abbrev lsC(C:List (List Bp)):CV:=.ls C.length 1 (chF C)
abbrev pbC(p:Pb):List CV:= [lsR p.R,lsC p.C,lsB p.F,lsG p.O,lsG p.T]
def rdL(L:List Rd):List Rd:=if L= []then [⟨0,1⟩]else L
def rcB(r:Rd)(a b:Bp)(x y:Bg):Bool:=decide (zBi r a=0) && (decide (zBi r b=0) && (zCF (zBa r a) (zBa r b) x y).2)
def rcC(r:Rd)(a b:Bp)(x y:Bg):Cl:=(zCF (zBa r a) (zBa r b) x y).1
def zDu(a b:Bp)(x y:Bg):List Rd→Nat→Nat×Cl×Bool
 | [],_=>(0,clZ,false)
 |r::L,k=>if rcB r a b x y=true then (k,rcC r a b x y,true)else zDu a b x y L (k+1)
def zBO(L:List Rd)(a b:Bp)(x y:Bg):Nat×Cl×Bool:=zDu a b x y (rdL L) 0
theorem zIq{a b:Bp}{x y:Bg}:∀{L:List Rd} {k m:Nat},m<L.length→(∀i,i<m→rcB (L.getD i rdZ) a b x y=false)→rcB (L.getD m rdZ) a b x y=true→zDu a b x y L k=(k+m,rcC (L.getD m rdZ) a b x y,true)
 | r::L,k,0,_,_,h=>by
   unfold zDu;rw[if_pos (show rcB r a b x y=true from h)]
   rfl
 | r::L,k,m+1,hm,h0,h=>by
   unfold zDu;rw[if_neg (by rw[show rcB r a b x y=false from h0 0 xD];simp),zIq (m:=m) (by simpa using hm) (fun i hi=>h0 (i+1) xD) h,Nat.add_assoc,Nat.add_comm 1]
   rfl
theorem zIr{a b:Bp}{x y:Bg}:∀{L:List Rd} {k:Nat},(∀i,i<L.length→rcB (L.getD i rdZ) a b x y=false)→zDu a b x y L k=(0,clZ,false)
 | [],_,_=>rfl
 | r::L,k,h=>by
   unfold zDu;rw[if_neg (by rw[show rcB r a b x y=false from h 0 (by simp)];simp),zIr fun i hi=>h (i+1) (by simpa using hi)]
def zEg(L:List Rd):Prop:=∀r∈L,-1000000≤r.bl∧r.bl≤1000000
theorem zNk{L:List Rd}(h:zEg L):zEg (rdL L):=fun r hr=>by
 unfold rdL at hr
 split at hr
 ·simp at hr;subst hr;exact⟨by decide,by decide⟩
 ·exact h r hr
theorem zAB{α:Type}{L:List α}{k:Nat}{z:α}(h:k<L.length):L.getD k z∈L:=by
 rw[List.getD_eq_getElem?_getD,List.getElem?_eq_getElem h];exact List.getElem_mem h
theorem zNh:∀k,k<1→∀j,j<2→sF [iC 0,iC 1] 2 k j=zS rdC rdZ [⟨0,1⟩] k j:=fun k hk j hj=>by
 obtain rfl:k=0:=by omega
 obtain rfl|rfl:j=0∨j=1:=by omega
 ·rfl
 ·rfl
theorem zNn(p:Pb)(hl:p.R.length≤1000000):ACalls Tryz.prog 85 [.ag (pbC p)] (.c (lsR (rdL p.R))):=by
 unfold rdL;by_cases h:p.R= []
 ·have h0:((p.R.length:Nat):Int)=0:=by rw[h];rfl
  rw[if_pos h];refine zJ Tryz.func85 rfl rfl Tryz.ntmps85 rfl ?_;refine vB [0,1,2] ?_
  refine⟨zC 11 [(2,.c (lsR [⟨0,1⟩]))] [] [],[],Wk.mk [] rfl rfl rfl ?_ trivial,rfl,rfl,aR1⟩
  exact⟨⟨_,rfl,.c (zCO rfl zNh)⟩,trivial⟩
 ·have h0:¬((p.R.length:Nat):Int)=0:=fun h0=>h (List.eq_nil_of_length_eq_zero xD)
  rw[if_neg h];refine zJ Tryz.func85 rfl rfl Tryz.ntmps85 rfl ?_;refine vB [0,1,3] ?_
  refine⟨zC 11 [(2,.c (lsR p.R))] [] [],[],Wk.mk [] rfl rfl rfl ?_ trivial,rfl,rfl,aR1⟩
  exact zB
theorem zKv(p:Pb)(a b:Bp)(x y:Bg)(hl:p.R.length≤1000000)(hR:zEg p.R):ACalls Tryz.prog 79 [.ag (pbC p),.ag (bpC a),.ag (bpC b),.ag (bgC x),.ag (bgC y)]
 (.tu [.c (iC (zBO p.R a b x y).1),.ag (clC (zBO p.R a b x y).2.1),.c (bC (zBO p.R a b x y).2.2)]):=by
 unfold zBO;have hRd:=zNn p hl;have hRo:=zNk hR
 obtain⟨L,hL⟩:∃L,rdL p.R=L:=⟨_,rfl⟩
 have hLl:L.length≤1000000:=by
  rw[←hL];unfold rdL;split
  ·simp
  ·exact hl
 have hR0:p.R.length=0→L= [⟨0,1⟩]:=fun h=>by rw[←hL];exact if_pos (List.eq_nil_of_length_eq_zero h)
 have hR1:¬p.R.length=0→L=p.R:=fun h=>by rw[←hL];exact if_neg fun e=>h (by rw[e];rfl)
 rw[hL]at hRd hRo⊢
 obtain⟨n,hn⟩:∃n,L.length=n:=⟨_,rfl⟩
 rw[hn]at hLl;refine zJ Tryz.func79 rfl rfl Tryz.ntmps79 rfl ?_
 repeat (first
  |refine vB [0] ?_
  | (refine rG 1 ?_
     refine vA ?_;refine xB Tryz.func85 hRd ?_;refine xE2 ?_;refine aB ?_))
 refine AWp.round (fun k:Nat=>
  zC 60 [(5,.c (.pt 5 5 0 0)),(6,.c (.pt 6 3 0 0)),(7,.c (.pt 7 3 0 0)),(8,.c (.pt 8 4 0 0)),(9,.c (.pt 9 4 0 0)),(11,.c (.pt 11 3 0 0)),(22,.c (lsR L)),(23,.c (iC n)),(24,.c (iC (k:Nat)))] [(5,⟨false,1,5,34,lF (pbC p)⟩),(6,⟨false,1,3,58,lF (bpC a)⟩),(7,⟨false,1,3,58,lF (bpC b)⟩),(8,⟨false,1,4,61,lF (bgC x)⟩),(9,⟨false,1,4,61,lF (bgC y)⟩),(11,⟨false,1,3,66,lF (clC clZ)⟩)] [5,6,7,8,9,11]
  ) (fun k=>k≤n∧∀i,i<k→rcB (L.getD i rdZ) a b x y=false) (fun k=>n-k) 0 ⟨Nat.zero_le _,fun i hi=>absurd hi (Nat.not_lt_zero _)⟩ ?_ (fun k hk=> ?_)
 ·refine Wk.mk [(5,some 5),(6,some 6),(7,some 7),(8,some 8),(9,some 9),(11,some 11)] rfl rfl rfl ?_ ?_
  ·exact zB
  ·exact zAf
 ·obtain ⟨hk,hno⟩:=hk
  by_cases hkn:k<n
  ·have hkn':(k:Int)<n:=by omega
   have hb:=hRo _ (zAB (L:=L) (k:=k) (z:=rdZ) xD);have s1:=zKS (L.getD k rdZ) a hb;have s2:=zKS (L.getD k rdZ) b hb;have hC:=zOI (zBa (L.getD k rdZ) a) (zBa (L.getD k rdZ) b) x y;have hrB:rcB (L.getD k rdZ) a b x y=(decide (zBi (L.getD k rdZ) a=0) && (decide (zBi (L.getD k rdZ) b=0) && (zCF (zBa (L.getD k rdZ) a) (zBa (L.getD k rdZ) b) x y).2)):=rfl;have hrC:rcC (L.getD k rdZ) a b x y=(zCF (zBa (L.getD k rdZ) a) (zBa (L.getD k rdZ) b) x y).1:=rfl;have go:rcB (L.getD k rdZ) a b x y=false→k+1≤n∧∀i,i<k+1→rcB (L.getD i rdZ) a b x y=false:=fun h=>⟨hkn,fun i hi=>by
    by_cases e:i=k
    ·rw[e];exact h
    ·exact hno i xD⟩
   have hit:rcB (L.getD k rdZ) a b x y=true→zDu a b x y L 0=(k,rcC (L.getD k rdZ) a b x y,true):=fun h=>by
    rw[zIq xD hno h,Nat.zero_add]
   generalize zBa (L.getD k rdZ) a=u at *;generalize zBa (L.getD k rdZ) b=v at *;generalize zBi (L.getD k rdZ) a=e1 at *;generalize zBi (L.getD k rdZ) b=e2 at *;by_cases c1:e1=0
   ·by_cases c2:e2=0
    ·rw [decide_eq_true c1,decide_eq_true c2,Bool.true_and,Bool.true_and]at hrB
     subst c1 c2;rw[←hrB,←hrC]at hC
     cases hc:rcB (L.getD k rdZ) a b x y with
     | true=>
       rw[hc]at hC;rw[hit hc]
       repeat (first
        |refine vB [2,6,8,9] ?_
        | (refine rG 3 ?_
           refine vA ?_;refine zG (aP (k:=k) zA) ?_;refine xE4 ?_;refine aB ?_)
        | (refine rG 4 ?_
           refine xE2 ?_;refine xB Tryz.func86 s1 ?_;refine xE6 ?_;refine aB ?_)
        | (refine rG 5 ?_
           refine xE2 ?_;refine xB Tryz.func86 s2 ?_;refine xE6 ?_;refine aB ?_)
        | (refine rG 7 ?_
           refine xE4 ?_;refine xB Tryz.func87 hC ?_;refine xE6 ?_;refine aB ?_))
       refine⟨zC 60 [(10,.c (iC (k))),(11,.c (.pt 11 3 0 0)),(12,.c (bC true))] [(11,⟨false,1,3,66,lF (clC (rcC (L.getD k rdZ) a b x y))⟩)] [11],[(11,⟨false,1,3,66,lF (clC (rcC (L.getD k rdZ) a b x y))⟩)],Wk.mk [(11,some 11)] rfl rfl rfl ?_ ?_,rfl,rfl,ARets.three (x:=.c _) (y:=.ag _) (z:=.c _) (ARes.tmp rfl rfl) (ARes.box zA rfl rfl rfl rfl rfl rfl rfl) (ARes.tmp rfl rfl)⟩
       ·exact zB
       ·exact zAf
     | false=>
       rw[hc]at hC
       repeat (first
        |refine vB [2,6,8,10] ?_
        | (refine rG 3 ?_
           refine vA ?_;refine zG (aP (k:=k) zA) ?_;refine xE4 ?_;refine aB ?_)
        | (refine rG 4 ?_
           refine xE2 ?_;refine xB Tryz.func86 s1 ?_;refine xE6 ?_;refine aB ?_)
        | (refine rG 5 ?_
           refine xE2 ?_;refine xB Tryz.func86 s2 ?_;refine xE6 ?_;refine aB ?_)
        | (refine rG 7 ?_
           refine xE4 ?_;refine xB Tryz.func87 hC ?_;refine xE6 ?_;refine aB ?_))
       refine⟨k+1,go hc,Wk.mk [(5,some 5),(6,some 6),(7,some 7),(8,some 8),(9,some 9),(11,some 11)] rfl rfl rfl ?_ ?_,by omega⟩
       ·exact zB
       ·exact zAf
    ·have hc:rcB (L.getD k rdZ) a b x y=false:=by rw[hrB,decide_eq_false c2,Bool.false_and,Bool.and_false]
     repeat (first
      |refine vB [2,6,10] ?_
      | (refine rG 3 ?_
         refine vA ?_;refine zG (aP (k:=k) zA) ?_;refine xE4 ?_;refine aB ?_)
      | (refine rG 4 ?_
         refine xE2 ?_;refine xB Tryz.func86 s1 ?_;refine xE6 ?_;refine aB ?_)
      | (refine rG 5 ?_
         refine xE2 ?_;refine xB Tryz.func86 s2 ?_;refine xE6 ?_;refine aB ?_))
     refine⟨k+1,go hc,Wk.mk [(5,some 5),(6,some 6),(7,some 7),(8,some 8),(9,some 9),(11,some 11)] rfl rfl rfl ?_ ?_,by omega⟩
     ·exact zB
     ·exact zAf
   ·have hc:rcB (L.getD k rdZ) a b x y=false:=by rw[hrB,decide_eq_false c1,Bool.false_and]
    repeat (first
     |refine vB [2,6,10] ?_
     | (refine rG 3 ?_
        refine vA ?_;refine zG (aP (k:=k) zA) ?_;refine xE4 ?_;refine aB ?_)
     | (refine rG 4 ?_
        refine xE2 ?_;refine xB Tryz.func86 s1 ?_;refine xE6 ?_;refine aB ?_)
     | (refine rG 5 ?_
        refine xE2 ?_;refine xB Tryz.func86 s2 ?_;refine xE6 ?_;refine aB ?_))
    refine⟨k+1,go hc,Wk.mk [(5,some 5),(6,some 6),(7,some 7),(8,some 8),(9,some 9),(11,some 11)] rfl rfl rfl ?_ ?_,by omega⟩
    ·exact zB
    ·exact zAf
  ·have hkn':¬(k:Int)<n:=by omega
   obtain rfl:k=n:=by omega
   rw[zIr (by rw[hn];exact hno)]
   refine vB [2,11] ?_
   refine⟨zC 60 [(10,.c (iC (0))),(11,.c (.pt 11 3 0 0)),(12,.c (bC false))] [(11,⟨false,1,3,66,lF (clC (clZ))⟩)] [11],[(11,⟨false,1,3,66,lF (clC (clZ))⟩)],Wk.mk [(11,some 11)] rfl rfl rfl ?_ ?_,rfl,rfl,ARets.three (x:=.c _) (y:=.ag _) (z:=.c _) (ARes.tmp rfl rfl) (ARes.box zA rfl rfl rfl rfl rfl rfl rfl) (ARes.tmp rfl rfl)⟩
   ·exact zB
   ·exact zAf
def zDD:List Rd→Int
 | []=>0
 |r::L=>if rdE r=0 then zDD L else rdE r
def bmE(W H:Int):List Bp→Int
 | []=>0
 |b::L=>if chk b.W b.H b.n=0 then (if b.W=W∧b.H=H then bmE W H L else 13)else chk b.W b.H b.n
abbrev zCq(p:Pb):List Bp:=p.C.flatten++p.F
def zEo(L:List Bp):Int:=bmE (L.getD 0 bpZ).W (L.getD 0 bpZ).H L
def zAr(p:Pb):Int:=
 if 4<p.R.length∨200<p.C.length∨200<p.F.length then 2
 else if p.C.any (fun l=>decide (32<l.length))=true then 2
 else if zDD p.R=0 then (if p.O.length=p.C.length∧p.T.length=p.F.length then zEo (zCq p)else 1)
 else zDD p.R
theorem zNl:∀{L:List Rd} {k:Nat},k<L.length→(∀i,i<k→rdE (L.getD i rdZ)=0)→rdE (L.getD k rdZ)≠0→zDD L=rdE (L.getD k rdZ)
 |r::L,0,_,_,h=>if_neg h
 | r::L,k+1,hk,h0,h=>by
   unfold zDD;rw[if_pos (show rdE r=0 from h0 0 xD),zNl (k:=k) (by simpa using hk) (fun i hi=>h0 (i+1) xD) h]
   rfl
theorem zJt:∀{L:List Rd},(∀i,i<L.length→rdE (L.getD i rdZ)=0)→zDD L=0
 | [],_=>rfl
 | r::L,h=>by
   unfold zDD;rw[if_pos (show rdE r=0 from h 0 (by simp)),zJt fun i hi=>h (i+1) (by simpa using hi)]
theorem zIf{W H:Int}:∀{L:List Bp} {k:Nat},k<L.length→(∀i,i<k→chk (L.getD i bpZ).W (L.getD i bpZ).H (L.getD i bpZ).n=0∧(L.getD i bpZ).W=W∧(L.getD i bpZ).H=H)→
 bmE W H L=if chk (L.getD k bpZ).W (L.getD k bpZ).H (L.getD k bpZ).n=0 then (if (L.getD k bpZ).W=W∧(L.getD k bpZ).H=H then bmE W H (L.drop (k+1))else 13)else chk (L.getD k bpZ).W (L.getD k bpZ).H (L.getD k bpZ).n
 |b::L,0,_,_=>rfl
 | b::L,k+1,hk,h=>by
   have h0:=h 0 xD;have e:bmE W H (b::L)=if chk b.W b.H b.n=0 then (if b.W=W∧b.H=H then bmE W H L else 13)else chk b.W b.H b.n:=rfl
   rw[e,if_pos (show chk b.W b.H b.n=0 from h0.1),if_pos (show b.W=W∧b.H=H from h0.2),zIf (k:=k) (by simpa using hk) fun i hi=>h (i+1) xD]
   rfl
theorem zLl{W H:Int}:∀{L:List Bp},(∀i,i<L.length→chk (L.getD i bpZ).W (L.getD i bpZ).H (L.getD i bpZ).n=0∧(L.getD i bpZ).W=W∧(L.getD i bpZ).H=H)→bmE W H L=0
 | [],_=>rfl
 | b::L,h=>by
   have h0:=h 0 (by simp);unfold bmE;rw[if_pos (show chk b.W b.H b.n=0 from h0.1),if_pos (show b.W=W∧b.H=H from h0.2),zLl fun i hi=>h (i+1) (by simpa using hi)]
def GoodL(L:List Bp)(k:Nat):Prop:=∀i,i<k→chk (L.getD i bpZ).W (L.getD i bpZ).H (L.getD i bpZ).n=0∧(L.getD i bpZ).W=(L.getD 0 bpZ).W∧(L.getD i bpZ).H=(L.getD 0 bpZ).H
theorem zLz{L:List Bp}{k:Nat}(hk:k<L.length)(h:GoodL L k)(hb:chk (L.getD k bpZ).W (L.getD k bpZ).H (L.getD k bpZ).n≠0):zEo L=chk (L.getD k bpZ).W (L.getD k bpZ).H (L.getD k bpZ).n:=by
 unfold zEo;rw[zIf hk h,if_neg hb]
theorem zLA{L:List Bp}{k:Nat}(hk:k<L.length)(h:GoodL L k)(hb:chk (L.getD k bpZ).W (L.getD k bpZ).H (L.getD k bpZ).n=0)(hs:¬((L.getD k bpZ).W=(L.getD 0 bpZ).W∧(L.getD k bpZ).H=(L.getD 0 bpZ).H)):zEo L=13:=by
 unfold zEo;rw[zIf hk h,if_pos hb,if_neg hs]
theorem zIo{L:List Bp}(h:GoodL L L.length):zEo L=0:=zLl h
theorem zKI{L:List Bp}{k:Nat}(h:GoodL L k)(h1:chk (L.getD k bpZ).W (L.getD k bpZ).H (L.getD k bpZ).n=0)(h2:(L.getD k bpZ).W=(L.getD 0 bpZ).W∧(L.getD k bpZ).H=(L.getD 0 bpZ).H):GoodL L (k+1):=fun i hi=>by
 by_cases e:i=k
 ·rw[e];exact⟨h1,h2⟩
 ·exact h i xD
theorem zId{C:List (List Bp)}(h:∀i,i<C.length→¬32<(C.getD i []).length):C.any (fun l=>decide (32<l.length))=false:=by
 rw[List.any_eq_false];intro l hl
 obtain⟨i,hi,rfl⟩:=List.getElem_of_mem hl
 have:=h i hi;rw[List.getD_eq_getElem?_getD,List.getElem?_eq_getElem hi]at this
 simpa using this
theorem zPr{C:List (List Bp)}{i:Nat}(hi:i<C.length)(h:32<(C.getD i []).length):C.any (fun l=>decide (32<l.length))=true:=by
 rw[List.any_eq_true]
 exact⟨_,zAB hi,decide_eq_true h⟩
def zBt(C:List (List Bp))(i:Nat):List Bp:=(C.take i).flatten
theorem zHf{C:List (List Bp)}{i:Nat}(hi:i<C.length):zBt C (i+1)=zBt C i++C.getD i []:=by
 unfold zBt;rw[List.take_add_one,List.getElem?_eq_getElem hi,List.flatten_append,List.getD_eq_getElem?_getD,List.getElem?_eq_getElem hi]
 simp
theorem zJm(C:List (List Bp)):zBt C C.length=C.flatten:=by unfold zBt;rw[List.take_length]
theorem zRu{C:List (List Bp)}{i k:Nat}(hi:i<C.length)(hk:k<(C.getD i []).length):C.flatten.getD ((zBt C i).length+k) bpZ=(C.getD i []).getD k bpZ∧(zBt C i).length+k<C.flatten.length:=by
 have e:C.flatten=zBt C (i+1)++(C.drop (i+1)).flatten:=by
  unfold zBt;rw[←List.flatten_append,List.take_append_drop]
 rw[e,zHf hi]
 constructor
 ·rw[List.getD_eq_getElem?_getD,List.append_assoc,List.getElem?_append_right xD,Nat.add_sub_cancel_left,List.getElem?_append_left hk,←List.getD_eq_getElem?_getD]
 ·simp only[List.length_append]
  omega
structure Pb.ok(p:Pb):Prop where
 rd:zEg p.R
 lR:p.R.length≤1000000
 lC:p.C.length≤1000000
 lF:p.F.length≤1000000
 lO:p.O.length≤1000000
 lT:p.T.length≤1000000
 lc:∀l∈p.C,l.length≤1000000
theorem zFA{p:Pb}(h:4<p.R.length∨200<p.C.length∨200<p.F.length):zAr p=2:=if_pos h
theorem zLE{p:Pb}{i:Nat}(h:¬(4<p.R.length∨200<p.C.length∨200<p.F.length))(hi:i<p.C.length)(hl:32<(p.C.getD i []).length):zAr p=2:=by
 unfold zAr;rw[if_neg h,if_pos (zPr hi hl)]
theorem zLF{p:Pb}{k:Nat}(h:¬(4<p.R.length∨200<p.C.length∨200<p.F.length))(hl:∀i,i<p.C.length→¬32<(p.C.getD i []).length)(hk:k<p.R.length)(h0:∀i,i<k→rdE (p.R.getD i rdZ)=0)(hr:rdE (p.R.getD k rdZ)≠0):zAr p=rdE (p.R.getD k rdZ):=by
 have e:=zNl hk h0 hr;unfold zAr;rw[if_neg h,if_neg (by rw[zId hl];simp),e,if_neg hr]
theorem zLD{p:Pb}(h:¬(4<p.R.length∨200<p.C.length∨200<p.F.length))(hl:∀i,i<p.C.length→¬32<(p.C.getD i []).length)(h0:∀i,i<p.R.length→rdE (p.R.getD i rdZ)=0)(hc:¬(p.O.length=p.C.length∧p.T.length=p.F.length)):zAr p=1:=by
 unfold zAr;rw[if_neg h,if_neg (by rw[zId hl];simp),zJt h0,if_pos rfl,if_neg hc]
theorem zIp{p:Pb}(h:¬(4<p.R.length∨200<p.C.length∨200<p.F.length))(hl:∀i,i<p.C.length→¬32<(p.C.getD i []).length)(h0:∀i,i<p.R.length→rdE (p.R.getD i rdZ)=0)(hc:p.O.length=p.C.length∧p.T.length=p.F.length):zAr p=zEo (zCq p):=by
 unfold zAr;rw[if_neg h,if_neg (by rw[zId hl];simp),zJt h0,if_pos rfl,if_pos hc]
theorem zDs(C:List (List Bp))(F:List Bp):∀i,i<C.length+1→∀j,j<1→zAj (chF C) C.length (sF [lsB F] 1) i j=chF (C++ [F]) i j∧zM (zAj (chF C) C.length (sF [lsB F] 1) i j)=true:=
 zFt (G:=chF (C++ [F])) (fun i hi=>zAa (by
  show lsB (C.getD i [])=lsB ((C++ [F]).getD i []);rw[List.getD_eq_getElem?_getD,List.getD_eq_getElem?_getD,List.getElem?_append_left hi])) (zAa (by
  show lsB F=lsB ((C++ [F]).getD C.length []);rw[List.getD_eq_getElem?_getD,List.getElem?_append_right (Nat.le_refl _),Nat.sub_self]
  rfl)) (fun _ _=>zAa rfl)
theorem zPo(p:Pb):(p.C++ [p.F]).flatten=zCq p:=by
 rw[List.flatten_append]
 simp
def fpC:Option (List Bp)→CV
 |none=>.p (.pointer none)
 |some L=>.pl L.length 3 (zS bpC bpZ L) 0 0
theorem zMj(o:Option (List Bp)):zM (fpC o)=true:=by cases o<;>rfl
def zKF(T:List Bp)(n:Nat):Option (List Bp)→Prop
 |none=>n=0
 |some L=>0<L.length∧L.getD 0 bpZ=T.getD 0 bpZ
theorem zDH(p:Pb)(hp:p.ok):ACalls Tryz.prog 25 [.ag (pbC p)] (.c (iC (zAr p))):=by
 obtain⟨hrd,lR,lC,lF',lO,lT,lc⟩:=hp
 by_cases c1:4<p.R.length
 ·rw[zFA (.inl c1)]
  have c1':((p.R.length:Nat):Int)>4:=by omega
  refine zJ Tryz.func25 rfl rfl Tryz.ntmps25 rfl ?_;refine vB [0,1,2] ?_
  refine⟨zC 127 [(2,.c (iC 2))] [] [],[],Wk.mk [] rfl rfl rfl ?_ trivial,rfl,rfl,aR1⟩
  exact zB
 have c1':¬((p.R.length:Nat):Int)>4:=by omega
 by_cases c2:200<p.C.length∨200<p.F.length
 ·rw[zFA (.inr c2)]
  have c2':max ((p.C.length:Nat):Int) ((p.F.length:Nat):Int)>200:=by omega
  refine zJ Tryz.func25 rfl rfl Tryz.ntmps25 rfl ?_;refine vB [0,1,2] ?_
  refine⟨zC 127 [(2,.c (iC 2))] [] [],[],Wk.mk [] rfl rfl rfl ?_ trivial,rfl,rfl,aR1⟩
  exact zB
 have c2':¬max ((p.C.length:Nat):Int) ((p.F.length:Nat):Int)>200:=by omega
 have hM:¬(4<p.R.length∨200<p.C.length∨200<p.F.length):=by omega
 have hlong:= @zLE p
 obtain⟨e,he⟩:∃e,zAr p=e:=⟨_,rfl⟩
 rw[he];refine zJ Tryz.func25 rfl rfl Tryz.ntmps25 rfl ?_;refine vB [0,1,2,3] ?_;refine AWp.round (fun i:Nat=>
  zC 127 [(1,.c (.pt 1 5 0 0)),(28,.c (lsC p.C)),(29,.c (iC p.C.length)),(30,.c (iC (i:Nat)))] [(1,⟨false,1,5,34,lF (pbC p)⟩)] [1]
  ) (fun i=>i≤p.C.length∧∀i',i'<i→¬32<(p.C.getD i' []).length) (fun i=>p.C.length-i) 0 ⟨Nat.zero_le _,fun _ h=>absurd h (Nat.not_lt_zero _)⟩ ?_ (fun i hi=> ?_)
 ·refine Wk.mk [(1,some 1)] rfl rfl rfl ?_ ?_
  ·exact zB
  ·exact zAf
 obtain⟨hi,hno⟩:=hi
 by_cases hil:i<p.C.length
 ·have hil':(i:Int)<p.C.length:=by omega
  by_cases h32:32<(p.C.getD i []).length
  ·have h32':(((p.C.getD i []).length:Nat):Int)>32:=by omega
   rw[hlong hM hil h32]at he;subst he
   repeat (first
    |refine vB [4,6,7] ?_
    | (refine rG 5 ?_
       first|refine zG (aP (k:=i) zA) ?_|refine zI (zH (k:=i) zA) ?_
       refine xE2 ?_;refine aB ?_))
   refine⟨zC 127 [(2,.c (iC 2))] [] [],[],Wk.mk [] rfl rfl rfl ?_ trivial,rfl,rfl,aR1⟩
   exact zB
  ·have h32':¬(((p.C.getD i []).length:Nat):Int)>32:=by omega
   repeat (first
    |refine vB [4,6,7,8] ?_
    | (refine rG 5 ?_
       first|refine zG (aP (k:=i) zA) ?_|refine zI (zH (k:=i) zA) ?_
       refine xE2 ?_;refine aB ?_))
   refine⟨i+1,⟨hil,fun i' hi'=> ?_⟩,Wk.mk [(1,some 1)] rfl rfl rfl ?_ ?_,by omega⟩
   ·by_cases e:i'=i
    ·rw[e];exact h32
    ·exact hno i' xD
   ·exact zB
   ·exact zAf
 have hil':¬(i:Int)<p.C.length:=by omega
 obtain rfl:i=p.C.length:=by omega
 have hrdk:= @zLF p;refine vB [4,9] ?_;refine AWp.round (fun k:Nat=>
  zC 127 [(1,.c (.pt 1 5 0 0)),(39,.c (lsR p.R)),(40,.c (iC p.R.length)),(41,.c (iC (k:Nat)))] [(1,⟨false,1,5,34,lF (pbC p)⟩)] [1]
  ) (fun k=>k≤p.R.length∧∀i,i<k→rdE (p.R.getD i rdZ)=0) (fun k=>p.R.length-k) 0 ⟨Nat.zero_le _,fun _ h=>absurd h (Nat.not_lt_zero _)⟩ ?_ (fun k hk=> ?_)
 ·refine Wk.mk [(1,some 1)] rfl rfl rfl ?_ ?_
  ·exact zB
  ·exact zAf
 obtain⟨hk,hok⟩:=hk
 by_cases hkl:k<p.R.length
 ·have hkl':(k:Int)<p.R.length:=by omega
  have hc:=zKQ (p.R.getD k rdZ) (hrd _ (zAB hkl));have hrdk':=fun h=>hrdk hM hno hkl hok h
  generalize hg:rdE (p.R.getD k rdZ)=v at *;by_cases hv:v=0
  ·subst hv
   repeat (first
    |refine vB [10,13,14,15] ?_
    | (refine rG 11 ?_
       first|refine zG (aP (k:=k) zA) ?_|refine zI (zH (k:=k) zA) ?_
       refine xE3 ?_;refine aB ?_)
    | (refine rG 12 ?_
       refine vA ?_;refine xB Tryz.func50 hc ?_;refine vA ?_;refine aB ?_))
   refine⟨k+1,⟨hkl,fun i hi=> ?_⟩,Wk.mk [(1,some 1)] rfl rfl rfl ?_ ?_,by omega⟩
   ·by_cases e:i=k
    ·rw[e];exact hg
    ·exact hok i xD
   ·exact zB
   ·exact zAf
  ·rw [hrdk' hv]at he
   subst he
   repeat (first
    |refine vB [10,13,14,15] ?_
    | (refine rG 11 ?_
       first|refine zG (aP (k:=k) zA) ?_|refine zI (zH (k:=k) zA) ?_
       refine xE3 ?_;refine aB ?_)
    | (refine rG 12 ?_
       refine vA ?_;refine xB Tryz.func50 hc ?_;refine vA ?_;refine aB ?_))
   refine⟨zC 127 [(2,.c (iC v))] [] [],[],Wk.mk [] rfl rfl rfl ?_ trivial,rfl,rfl,aR1⟩
   exact zB
 have hkl':¬(k:Int)<p.R.length:=by omega
 obtain rfl:k=p.R.length:=by omega
 by_cases c3:p.O.length=p.C.length∧p.T.length=p.F.length
 ·have c3a :((p.O.length:Nat):Int)=p.C.length:=by omega
  have c3b:((p.T.length:Nat):Int)=p.F.length:=by omega
  rw[zIp hM hno hok c3]at he;refine vB [10,16,17,18] ?_;refine AWp.draw zK ?_;refine xE8 ?_;refine zRA (zOn zA) ?_;refine xE3 ?_
  first|refine xA ?_|refine zOl zA rfl rfl rfl rfl rfl rfl rfl rfl rfl oM oM ?_
  refine xE2 ?_;refine aB ⟨by kernel_rfl,?_⟩
  obtain⟨M,hMd⟩:∃M,p.C++ [p.F]=M:=⟨_,rfl⟩
  have hMl:M.length=p.C.length+1:=by rw[←hMd];simp
  have hfl:M.flatten=zCq p:=by rw[←hMd];exact zPo p
  have hrow:∀i,i<M.length→(M.getD i []).length≤200:=fun i hi=>by
   rw[←hMd,List.getD_eq_getElem?_getD];by_cases h:i<p.C.length
   ·rw[List.getElem?_append_left h,←List.getD_eq_getElem?_getD]
    have:=hno i h
    omega
   ·rw[List.getElem?_append_right xD,show i-p.C.length=0 by omega]
    show p.F.length≤200
    omega
  refine AWp.weak (S':=
   zC 127 [(8,.c (fpC none)),(79,.c (lsC M)),(80,.c (iC M.length)),(81,.c (iC 0))] [] []
   ) (Wk.mk [] rfl rfl rfl ?_ trivial) ?_
  ·subst hMd
   refine⟨⟨_,rfl,.c (LeC.refl _ rfl)⟩,⟨_,rfl,.c (zZ rfl rfl hMl (zDs p.C p.F))⟩,⟨_,rfl,LeA.int ?_⟩,⟨_,rfl,LeA.int rfl⟩,trivial⟩
   rw[hMl]
  rw[←hfl]at he;have hbad:= @zLz M.flatten;have hsize:= @zLA M.flatten;refine vB [] ?_;refine AWp.round (fun s:Nat×Option (List Bp)=>
   zC 127 [(8,.c (fpC s.2)),(79,.c (lsC M)),(80,.c (iC M.length)),(81,.c (iC s.1))] [] []
   ) (fun s=>s.1≤M.length∧GoodL M.flatten (zBt M s.1).length∧zKF M.flatten (zBt M s.1).length s.2) (fun s=>M.length-s.1) (0,none) ⟨Nat.zero_le _,fun _ h=>absurd h (Nat.not_lt_zero _),rfl⟩ ?_ (fun s hs=> ?_)
  ·refine Wk.mk [] rfl rfl rfl ?_ trivial
   exact zB
  obtain⟨i,o⟩:=s
  obtain⟨hi,hg,hfp⟩:=hs
  dsimp only at hi hg hfp⊢;by_cases hil:i<M.length
  ·have hil':(i:Int)<M.length:=by omega
   obtain⟨L,hL⟩:∃L,M.getD i []=L:=⟨_,rfl⟩
   have hL2:=hrow i hil;rw[hL]at hL2;have hsu:=zHf hil;rw[hL]at hsu;have hget:=fun k hk=>zRu (k:=k) hil (by rw[hL];exact hk)
   rw[hL]at hget;have hcF:chF M i 0=lsB L:=by rw[←hL]
   repeat (first
    |refine vB [20,22] ?_
    | (refine rG 21 ?_
       first|refine zG (aP (k:=i) zA) ?_|refine zI (zH (k:=i) zA) ?_
       first|refine zY zA (hcF) rfl rfl rfl rfl rfl oM ?_|refine zAp zA rfl rfl rfl rfl rfl rfl rfl oM oM (hcF) ?_
       refine vA ?_;refine aB ?_))
   refine AWp.round (fun s:Nat×Option (List Bp)=>
    zC 127 [(8,.c (fpC s.2)),(10,.c (lsB L)),(79,.c (lsC M)),(80,.c (iC M.length)),(81,.c (iC i)),(85,.c (lsB L)),(86,.c (iC L.length)),(87,.c (iC s.1))] [] []
    ) (fun s=>s.1≤L.length∧GoodL M.flatten ((zBt M i).length+s.1)∧zKF M.flatten ((zBt M i).length+s.1) s.2) (fun s=>L.length-s.1) (0,o) ⟨Nat.zero_le _,hg,hfp⟩ ?_ (fun s hs=> ?_)
   ·refine Wk.mk [] rfl rfl rfl ?_ trivial
    repeat (first|exact trivial|refine⟨⟨_,rfl,by first|exact LeA.c (LeC.refl _ (zMj _))|exact leT⟩,?_⟩)
   obtain⟨k,o⟩:=s
   obtain⟨hk,hg,hfp⟩:=hs
   dsimp only at hk hg hfp⊢;by_cases hkl:k<L.length
   ·have hkl':(k:Int)<L.length:=by omega
    obtain⟨hq,hqlt⟩:=hget k hkl
    have hb:=fun h=>hbad hqlt hg h
    have hsz:=fun h1 h2=>hsize hqlt hg h1 h2
    have hgs:=fun h1 h2=>zKI hg h1 h2
    rw[hq]at hb hsz hgs
    obtain⟨L0,h0a,h0b,hcase⟩:∃L0:List Bp,0<L0.length∧L0.getD 0 bpZ=M.flatten.getD 0 bpZ∧((o=none∧k=0∧L0=L)∨o=some L0):=by
     cases o with
     | none=>
       have h1:(zBt M i).length+k=0:=hfp;have h2:k=0:=by omega
       rw[h1,h2]at hq
       exact⟨L,by omega,hq.symm,.inl ⟨rfl,h2,rfl⟩⟩
     |some L1=>exact⟨L1,hfp.1,hfp.2,.inr rfl⟩
    rw[←h0b]at hsz hgs;refine vB [23,24] ?_;refine zKt (
     zC 127 [(8,.c (fpC (some L0))),(10,.c (lsB L)),(11,.c (iC k)),(79,.c (lsC M)),(80,.c (iC M.length)),(81,.c (iC i)),(85,.c (lsB L)),(86,.c (iC L.length)),(87,.c (iC k))] [] []
     ) ?_ (fun S1 hw1=>AWp.weak hw1 ?_)
    ·rcases hcase with ⟨rfl,rfl,rfl⟩|rfl
     · -- ax 14 assign.Check
       repeat (first
        |refine vB [] ?_
        | (refine rG 25 ?_
           refine vA ?_
           first|refine zKq rfl rfl rfl (zHg Tryz.underlying107) ?_|refine zKp rfl rfl rfl rfl (zHg Tryz.underlying107) ?_
           refine aB ?_)
        | (refine rG 26 ?_
           refine xE2 ?_
           first|refine zG (aP (k:=0) zA) ?_|refine zI (zH (k:=0) zA) ?_
           refine vA ?_;refine aB ?_))
       refine⟨rfl,Wk.mk [] rfl rfl rfl ?_ trivial⟩
       exact zB
     · -- ax 15 assign.Check
       repeat (first
        |refine vB [] ?_
        | (refine rG 25 ?_
           refine vA ?_
           first|refine zKq rfl rfl rfl (zHg Tryz.underlying107) ?_|refine zKp rfl rfl rfl rfl (zHg Tryz.underlying107) ?_
           refine aB ?_)
        | (refine rG 26 ?_
           refine xE2 ?_
           first|refine zG (aP (k:=k) zA) ?_|refine zI (zH (k:=k) zA) ?_
           refine vA ?_;refine aB ?_))
       refine⟨rfl,Wk.mk [] rfl rfl rfl ?_ trivial⟩
       exact zB
    have hC:=zFv (L.getD k bpZ).W (L.getD k bpZ).H (L.getD k bpZ).n (L.getD k bpZ).d;by_cases e1:chk (L.getD k bpZ).W (L.getD k bpZ).H (L.getD k bpZ).n=0
    ·rw [e1]at hC
     by_cases e2:(L.getD k bpZ).W=(L0.getD 0 bpZ).W∧(L.getD k bpZ).H=(L0.getD 0 bpZ).H
     · -- ax 16 assign.Check
       repeat (first
        |refine vB [28] ?_
        | (refine rG 27 ?_
           refine xE2 ?_
           first|refine zG (aP (k:=k) zA) ?_|refine zI (zH (k:=k) zA) ?_
           refine vA ?_;refine xB Tryz.func51 hC ?_;refine vA ?_;refine aB ?_))
       obtain⟨e2a,e2b⟩:=e2
       repeat (first
        |refine vB [32] ?_
        |(refine AWp.draw (id:=30) zK ?_;refine xE2 ?_;(first|refine zG (aP (k:=k) zA) ?_|refine zI (zH (k:=k) zA) ?_);refine zB4 ?_;(first|refine qr2 aG ?_|refine zG (aP (k:=k) zA) ?_|refine zI (zH (k:=k) zA) ?_);refine xE8 ?_;refine aB ⟨by kernel_rfl,?_⟩))
       refine⟨(k+1,some L0),⟨hkl,hgs e1 ⟨e2a,e2b⟩,h0a,h0b⟩,Wk.mk [] rfl rfl rfl ?_ trivial,by dsimp only;omega⟩
       exact zB
     ·rw [hsz e1 e2]at he
      subst he;by_cases e2a:(L.getD k bpZ).W=(L0.getD 0 bpZ).W
      ·have e2b:¬(L.getD k bpZ).H=(L0.getD 0 bpZ).H:=fun h=>e2 ⟨e2a,h⟩
       repeat (first
        |refine vB [28,31] ?_
        | (refine rG 27 ?_
           refine xE2 ?_
           first|refine zG (aP (k:=k) zA) ?_|refine zI (zH (k:=k) zA) ?_
           refine vA ?_;refine xB Tryz.func51 hC ?_;refine vA ?_;refine aB ?_)
        |(refine AWp.draw (id:=30) zK ?_;refine xE2 ?_;(first|refine zG (aP (k:=k) zA) ?_|refine zI (zH (k:=k) zA) ?_);refine zB4 ?_;(first|refine qr2 aG ?_|refine zG (aP (k:=k) zA) ?_|refine zI (zH (k:=k) zA) ?_);refine xE8 ?_;refine aB ⟨by kernel_rfl,?_⟩))
       refine⟨zC 127 [(2,.c (iC 13))] [] [],[],Wk.mk [] rfl rfl rfl ?_ trivial,rfl,rfl,aR1⟩
       exact zB
      · -- ax 19 assign.Check
        repeat (first
         |refine vB [28,31] ?_
         | (refine rG 27 ?_
            refine xE2 ?_
            first|refine zG (aP (k:=k) zA) ?_|refine zI (zH (k:=k) zA) ?_
            refine vA ?_;refine xB Tryz.func51 hC ?_;refine vA ?_;refine aB ?_)
         |(refine AWp.draw (id:=30) zK ?_;refine xE2 ?_;(first|refine zG (aP (k:=k) zA) ?_|refine zI (zH (k:=k) zA) ?_);refine zB4 ?_;(first|refine qr2 aG ?_|refine zG (aP (k:=k) zA) ?_|refine zI (zH (k:=k) zA) ?_);refine xE8 ?_;refine aB ⟨by kernel_rfl,?_⟩))
        refine⟨zC 127 [(2,.c (iC 13))] [] [],[],Wk.mk [] rfl rfl rfl ?_ trivial,rfl,rfl,aR1⟩
        exact zB
    ·rw [hb e1]at he
     rw[he]at hC e1
     repeat (first
      |refine vB [28,29] ?_
      | (refine rG 27 ?_
         refine xE2 ?_
         first|refine zG (aP (k:=k) zA) ?_|refine zI (zH (k:=k) zA) ?_
         refine vA ?_;refine xB Tryz.func51 hC ?_;refine vA ?_;refine aB ?_))
     refine⟨zC 127 [(2,.c (iC e))] [] [],[],Wk.mk [] rfl rfl rfl ?_ trivial,rfl,rfl,aR1⟩
     exact zB
   ·have hkl':¬(k:Int)<L.length:=by omega
    obtain rfl:k=L.length:=by omega
    have hlen:(zBt M i).length+L.length=(zBt M (i+1)).length:=by rw[hsu,List.length_append]
    rw[hlen]at hg hfp;refine vB [23,33] ?_
    refine⟨(i+1,o),⟨hil,hg,hfp⟩,Wk.mk [] rfl rfl rfl ?_ trivial,by dsimp only;omega⟩
    repeat (first|exact trivial|refine⟨⟨_,rfl,by first|exact LeA.c (LeC.refl _ (zMj _))|exact leT⟩,?_⟩)
  ·have hil':¬(i:Int)<M.length:=by omega
   obtain rfl:i=M.length:=by omega
   rw[zJm]at hg;rw[zIo hg]at he;subst he;refine vB [20,34] ?_
   refine⟨zC 127 [(2,.c (iC 0))] [] [],[],Wk.mk [] rfl rfl rfl ?_ trivial,rfl,rfl,aR1⟩
   exact zB
 ·rw[zLD hM hno hok c3]at he
  subst he;by_cases c3a:p.O.length=p.C.length
  ·have c3a':((p.O.length:Nat):Int)=p.C.length:=by omega
   have c3b:¬((p.T.length:Nat):Int)=p.F.length:=by omega
   refine vB [10,16,17] ?_
   refine⟨zC 127 [(2,.c (iC 1))] [] [],[],Wk.mk [] rfl rfl rfl ?_ trivial,rfl,rfl,aR1⟩
   exact zB
  ·have c3a':¬((p.O.length:Nat):Int)=p.C.length:=by omega
   refine vB [10,16,17] ?_
   refine⟨zC 127 [(2,.c (iC 1))] [] [],[],Wk.mk [] rfl rfl rfl ?_ trivial,rfl,rfl,aR1⟩
   exact zB
def zBZ(p:Pb)(l c:Int):Bp:=if l<0 then p.F.getD c.toNat bpZ else (p.C.getD l.toNat []).getD c.toNat bpZ
def zB0(p:Pb)(l c:Int):Bg:=if l<0 then p.T.getD c.toNat bgZ else p.O.getD l.toNat bgZ
def pkV(p:Pb)(a b c d:Int):Bool:=(zBO p.R (zBZ p a b) (zBZ p c d) (zB0 p a b) (zB0 p c d)).2.2
def PkOk(p:Pb)(l c:Int):Prop:=(l = -1∧∃k:Nat,c=k∧k<p.F.length∧k<p.T.length)∨(∃i k:Nat,l=i∧c=k∧i<p.C.length∧i<p.O.length∧k<(p.C.getD i []).length)
def gP(p:Pb):Value→Bool
 | .agg v=>match v.toList with
   | [.int _ a,.int _ b,.int _ c,.int _ d]=>pkV p a b c d
   |_=>false
 |_=>false
abbrev zF0(a b c d:Int):List Value:= [.int .i64 a,.int .i64 b,.int .i64 c,.int .i64 d]
theorem zJk:WideMaps.KeyLaw Tryz.prog 148:=deep_law_laid xC (m:=3) xD (of_decide_eq_true xC) xC (by rw[Tryz.underlying148])
theorem zRo{a b c d:Int}(ha:(Lit.int .i64 a).wf=true)(hb:(Lit.int .i64 b).wf=true)(hc:(Lit.int .i64 c).wf=true)(hd:(Lit.int .i64 d).wf=true):∃kl,keyOf Tryz.prog 148 (.agg (zF0 a b c d).toArray)=some kl:=by
 obtain⟨m,hm⟩:∃m,Tryz.prog.types.size=m+2:=⟨Tryz.prog.types.size-2,of_decide_eq_true xC⟩
 have k1:Tryz.prog.keyType 148=true:=by kernel_rfl
 have c1:Tryz.prog.cellsOf 148=4:=by kernel_rfl
 have c2:Tryz.prog.cellsOf 141=2:=by kernel_rfl
 have c3:Tryz.prog.cellsOf 3=1:=by kernel_rfl
 have int1:∀(n:Nat) (x:Int),(Lit.int .i64 x).wf=true→Tryz.prog.keyLits (n+1) 3 [.int .i64 x]=some [.int .i64 x]:=fun n x h=>by
  unfold Program.keyLits;rw[Tryz.underlying3]
  simp[h]
 have pick1:∀(n:Nat) (x y:Int),(Lit.int .i64 x).wf=true→(Lit.int .i64 y).wf=true→Tryz.prog.keyLits (n+2) 141 [.int .i64 x,.int .i64 y]=some [.int .i64 x,.int .i64 y]:=fun n x y h1 h2=>by
  unfold Program.keyLits;rw[Tryz.underlying141]
  simp[c2,c3,int1,h1,h2]
 have hf:(Value.agg (zF0 a b c d).toArray).formed Tryz.prog 148=true:=by simp[Value.formed,Tryz.underlying148,c1]
 unfold keyOf;rw[Tryz.underlying148]
 simp only[k1,hf,hm]
 unfold Program.keyLits;rw[Tryz.underlying148]
 simp[c1,c2,pick1,ha,hb,hc,hd,Value.cells]
abbrev srC(p:Pb)(m:Nat)(st:Int):List CV:=pbC p++ [.ow m,iC st]
abbrev srB(p:Pb)(m:Nat)(st:Int):AB:=⟨false,1,7,117,lF (srC p m st)⟩
abbrev knK(p:Pb):Array MapEntry→Nat→Prop:=KM Tryz.prog 148 (gP p)
abbrev knB(p:Pb):AB:=moB 115 (knK p)
theorem zAK{S:St}{ren:List (Nat×Option Nat)}{id:Nat}{ty:TypeId}{K K':Array MapEntry→Nat→Prop}(hb:Nat.ble 1000 id=true)(hh:S.h id=some (moB ty K))(hK:∀es c,K es c→K' es c):HeapOk S ren id (moB ty K'):=
 .inr ⟨id,1,moF K,.inr ⟨Nat.ble_eq.mp hb,rfl⟩,rfl,hh,fun _ _ _ _=>LeC.moW _ _ fun _ _ ⟨es,c,e,h⟩=>⟨es,c,e,hK es c h⟩⟩
theorem HeapOk.mo{S:St}{ren:List (Nat×Option Nat)}{id o:Nat}{ty:TypeId}{K K':Array MapEntry→Nat→Prop}(hr:zD ren id=some (some o))(hh:S.h o=some (moB ty K))(hK:∀es c,K es c→K' es c):HeapOk S ren id (moB ty K'):=
 .inr ⟨o,1,moF K,.inl hr,rfl,hh,fun _ _ _ _=>LeC.moW _ _ fun _ _ ⟨es,c,e,h⟩=>⟨es,c,e,hK es c h⟩⟩
theorem LendOk2.mo{S:St}{all:List Nat}{id:Nat}{ty:TypeId}{K:Array MapEntry→Nat→Prop}{ids:List Nat}{bs:List AB}(hh:S.h id=some (moB ty K))(hr:LendOk2 S all ids bs):LendOk2 S all (id::ids) (moB ty K::bs):=
 ⟨⟨_,hh,fun h=>(by cases h),fun _ _ _ _=>LentC.imm rfl⟩,hr⟩
theorem BackB.same{ids ni:List Nat}{B:AB}{l m:List AB}(hi:∀k,k<B.n→∀j,j<B.sz→zM (B.F k j)=true)(hr:BackB ids ni l m):BackB ids ni (B::l) (B::m):=⟨⟨B.F,rfl,fun k hk j hj=>.imm _ (hi k hk j hj)⟩,hr⟩
theorem zBD{S:St}{all ids:List Nat}{bs:List AB}{p:Pb}{i1 i2:Nat}{st:Int}{F:Nat→Nat→CV}(h1:S.h i1=some ⟨false,1,7,117,F⟩)(hF:zAD (F 0) 0 7=srC p i2 st)(hp:zT all i2=some 1)(h2:S.h i2=some (knB p))(hr:LendOk2 S all ids bs):
 LendOk2 S all (i1::i2::ids) (srB p 1001 st::knB p::bs):=
 LendOk2.box h1 (by
  rw[hF]
  exact⟨.imm rfl,.imm rfl,.imm rfl,.imm rfl,.imm rfl,.ow (by rw[hp];rfl),.imm rfl,trivial⟩) rfl (LendOk2.mo h2 hr)
theorem zBB{ids ni:List Nat}{p:Pb}{i2:Nat}{st:Int}{l m:List AB}(hp:zT ids i2=some 1)(hr:BackB ids ni l m):BackB ids ni (srB p 1001 st::knB p::l) (srB p i2 st::knB p::m):=
 ⟨⟨_,rfl,fun k hk j hj=>by
   obtain rfl:k=0:=by have:k<1:=hk;omega
   have hj:j<7:=hj;have:j=0∨j=1∨j=2∨j=3∨j=4∨j=5∨j=6:=by omega
   rcases this with rfl|rfl|rfl|rfl|rfl|rfl|rfl
   ·exact .imm _ rfl
   ·exact .imm _ rfl
   ·exact .imm _ rfl
   ·exact .imm _ rfl
   ·exact .imm _ rfl
   ·exact .ow 1 i2 hp
   ·exact .imm _ rfl⟩,BackB.same (fun _ _ _ _=>rfl) hr⟩
theorem zFw{ids ni:List Nat}:∀{l:List CV},l.all zM=true→LeL (BackC ids ni) l l
 | [],_=>trivial
 | x::l,h=>by
   rw[List.all_cons,Bool.and_eq_true]at h
   exact⟨.imm x h.1,zFw h.2⟩
theorem zEK{ids ni:List Nat}(l m:List CV)(hl:l.all zM=true)(hm:m.all zM=true):BackA ids ni (.tu [.ag l,.ag m]) (.tu [.ag l,.ag m]):=.tu ⟨.ag (zFw hl),.ag (zFw hm),trivial⟩
theorem zCh{ids ni:List Nat}(x:CV)(h:zM x=true):BackA ids ni (.c x) (.c x):=.c (.imm x h)
theorem zME(p:Pb)(hp:p.ok)(st l c:Int)(h:PkOk p l c):zCg Tryz.prog 90 [.c (.pt 1000 7 0 0),.ag [iC l,iC c]] [srB p 1001 st,knB p] (.tu [.ag (bpC (zBZ p l c)),.ag (bgC (zB0 p l c))]) [srB p 1001 st,knB p] []:=by
 obtain⟨hrd,lR,lC,lF',lO,lT,lc⟩:=hp
 unfold zBZ zB0
 rcases h with ⟨rfl,k,rfl,h1,h2⟩|⟨i,k,rfl,rfl,h1,h2,h3⟩
 ·rw[if_pos (by decide),if_pos (by decide),Int.toNat_natCast]
  refine zBw Tryz.func90 rfl rfl Tryz.ntmps90 rfl ?_
  repeat (first
   |refine vB [0,1] ?_
   |(refine AWp.draw (id:=2) zK ?_;refine xE7 ?_;refine zG (aP (k:=k) zA) ?_;refine xE8 ?_;refine zG (aP (k:=k) zA) ?_;refine xE3 ?_;refine aB ⟨by kernel_rfl,?_⟩))
  refine⟨mkL 49 2 [(4,.c (.pt 4 3 0 0)),(5,.c (.pt 5 4 0 0))] [(4,⟨false,1,3,58,lF (bpC (p.F.getD k bpZ))⟩),(5,⟨false,1,4,61,lF (bgC (p.T.getD k bgZ))⟩),(1000,srB p 1001 st),(1001,knB p)] [4,5],[(4,⟨false,1,3,58,lF (bpC (p.F.getD k bpZ))⟩),(5,⟨false,1,4,61,lF (bgC (p.T.getD k bgZ))⟩)],_,[srB p 1001 st,knB p],[],⟨rfl,rfl,rfl⟩,rfl,zQ [(4,some 4),(5,some 5)] rfl rfl rfl rfl rfl ?_ ?_,rfl,rfl,GRets.two (x:=.ag _) (y:=.ag _) (GRes.box zA rfl rfl rfl rfl rfl rfl) (GRes.box zA rfl rfl rfl rfl rfl rfl)⟩
  ·exact zB
  ·exact⟨hSm,hSm,
   zAe rfl rfl ⟨LeC.refl _ rfl,LeC.refl _ rfl,LeC.refl _ rfl,LeC.refl _ rfl,LeC.refl _ rfl,LeC.owB 1001 rfl,LeC.int rfl,trivial⟩ rfl,zAK rfl rfl (fun _ _ h=>h)
   ,trivial⟩
 ·have hl0:¬(i:Int)<0:=by omega
  have hlc:=lc _ (zAB (z:= []) h1);rw[if_neg hl0,if_neg hl0,Int.toNat_natCast,Int.toNat_natCast]
  obtain⟨L,hL⟩:∃L,p.C.getD i []=L:=⟨_,rfl⟩
  rw[hL]at h3 hlc⊢;have hcF:chF p.C i 0=lsB L:=by rw[←hL]
  refine zBw Tryz.func90 rfl rfl Tryz.ntmps90 rfl ?_
  repeat (first
   |refine vB [0,1] ?_
   |(refine AWp.draw (id:=3) zK ?_;refine xE7 ?_;refine zG (aP (k:=i) zA) ?_;refine zY zA (hcF) rfl rfl rfl rfl rfl oM ?_;refine xE2 ?_;refine zG (aP (k:=k) zA) ?_;refine xE8 ?_;refine zG (aP (k:=i) zA) ?_;refine xE3 ?_;refine aB ⟨by kernel_rfl,?_⟩))
  refine⟨mkL 49 2 [(4,.c (.pt 4 3 0 0)),(5,.c (.pt 5 4 0 0))] [(4,⟨false,1,3,58,lF (bpC (L.getD k bpZ))⟩),(5,⟨false,1,4,61,lF (bgC (p.O.getD i bgZ))⟩),(1000,srB p 1001 st),(1001,knB p)] [4,5],[(4,⟨false,1,3,58,lF (bpC (L.getD k bpZ))⟩),(5,⟨false,1,4,61,lF (bgC (p.O.getD i bgZ))⟩)],_,[srB p 1001 st,knB p],[],⟨rfl,rfl,rfl⟩,rfl,zQ [(4,some 4),(5,some 5)] rfl rfl rfl rfl rfl ?_ ?_,rfl,rfl,GRets.two (x:=.ag _) (y:=.ag _) (GRes.box zA rfl rfl rfl rfl rfl rfl) (GRes.box zA rfl rfl rfl rfl rfl rfl)⟩
  ·exact zB
  ·exact⟨hSm,hSm,
   zAe rfl rfl ⟨LeC.refl _ rfl,LeC.refl _ rfl,LeC.refl _ rfl,LeC.refl _ rfl,LeC.refl _ rfl,LeC.owB 1001 rfl,LeC.int rfl,trivial⟩ rfl,zAK rfl rfl (fun _ _ h=>h)
   ,trivial⟩
theorem zRr{a b c d:Int}(h:a≠c)(w:World):(Go.binOp .eql 141 (.agg #[.int .i64 a,.int .i64 b]) (.agg #[.int .i64 c,.int .i64 d])).run Tryz.prog w=.ok (.bool false) w:=by
 have hp:Tryz.prog.stoodInHeld 141=false:=by kernel_rfl
 go_simp
theorem wfN{k:Nat}(h:k≤1000000):(Lit.int .i64 (k:Int)).wf=true:=by
 have e1:IntKind.i64.min = -9223372036854775808:=by decide
 have e2:IntKind.i64.max=9223372036854775807:=by decide
 simp only[Lit.wf,e1,e2,Bool.and_eq_true,decide_eq_true_eq]
 omega
theorem PkOk.wf{p:Pb}(hp:p.ok){l c:Int}(h:PkOk p l c):(Lit.int .i64 l).wf=true∧(Lit.int .i64 c).wf=true:=by
 obtain⟨hrd,lR,lC,lF',lO,lT,lc⟩:=hp
 rcases h with ⟨rfl,k,rfl,h1,h2⟩|⟨i,k,rfl,rfl,h1,h2,h3⟩
 ·exact⟨by decide,wfN xD⟩
 ·have:=lc _ (zAB (z:= []) h1)
  exact⟨wfN xD,wfN xD⟩
theorem zHp(p:Pb)(hp:p.ok)(st l1 c1 l2 c2:Int)(h1:PkOk p l1 c1)(h2:PkOk p l2 c2)(hne:l1≠l2):zCg Tryz.prog 84 [.c (.pt 1000 7 0 0),.ag [iC l1,iC c1],.ag [iC l2,iC c2]] [srB p 1001 st,knB p] (.c (bC (pkV p l1 c1 l2 c2))) [srB p 1001 st,knB p] []:=by
 have hL1:=zME p hp st l1 c1 h1;have hL2:=zME p hp st l2 c2 h2
 obtain⟨w1,w2⟩:=h1.wf hp
 obtain⟨w3,w4⟩:=h2.wf hp
 obtain⟨kl,hkl⟩:=zRo w1 w2 w3 w4
 have hC:=zKv p (zBZ p l1 c1) (zBZ p l2 c2) (zB0 p l1 c1) (zB0 p l2 c2) hp.lR hp.rd;have hV:(zBO p.R (zBZ p l1 c1) (zBZ p l2 c2) (zB0 p l1 c1) (zB0 p l2 c2)).2.2=pkV p l1 c1 l2 c2:=rfl;have hG:gP p (.agg (zF0 l1 c1 l2 c2).toArray)=pkV p l1 c1 l2 c2:=rfl;have hnq:=zRr (b:=c1) (d:=c2) hne;rw[hV]at hC;generalize zBO p.R (zBZ p l1 c1) (zBZ p l2 c2) (zB0 p l1 c1) (zB0 p l2 c2)=V at hC
 obtain⟨v,hv⟩:∃v,pkV p l1 c1 l2 c2=v:=⟨_,rfl⟩
 rw[hv]at hC hG⊢;refine zBw Tryz.func84 rfl rfl Tryz.ntmps84 rfl ?_
 repeat (first
  |refine vB [0,3] ?_
  | (refine rG 1 ?_
     refine xE2 ?_;refine zJZ rfl rfl rfl rfl rfl rfl xC (hnq) ?_;refine aB ?_))
 refine AWp.weak (S':=
  mkL 63 2 [(0,.c (.pt 1000 7 0 0)),(4,.c (.pt 4 2 0 0)),(5,.c (.pt 5 2 0 0)),(7,.c (.pt 7 4 0 0)),(6,.c (bC false))] [(4,⟨false,1,2,141,lF [iC l1,iC c1]⟩),(5,⟨false,1,2,141,lF [iC l2,iC c2]⟩),(7,⟨false,1,4,148,lF [iC l1,iC c1,iC l2,iC c2]⟩),(1000,srB p 1001 st),(1001,knB p)] [4,5,7]
  ) (zQ [(4,some 4),(5,some 5),(7,some 7)] rfl rfl rfl rfl rfl ?_ ?_) ?_
 ·repeat (first|exact trivial|refine⟨⟨_,rfl,by first|exact LeA.c (LeC.ptB _ _ _ _ rfl)|exact leT⟩,?_⟩)
 ·exact⟨hSm,hSm,hSm,
  zAe rfl rfl ⟨LeC.refl _ rfl,LeC.refl _ rfl,LeC.refl _ rfl,LeC.refl _ rfl,LeC.refl _ rfl,LeC.owB 1001 rfl,LeC.int rfl,trivial⟩ rfl,zAK rfl rfl (fun _ _ h=>h)
  ,trivial⟩
 refine zOt (id:=1001) (bt:=115) (kt:=148) (g:=gP p) (.agg (zF0 l1 c1 l2 c2).toArray) rfl (fun has=> ?_)
 cases has with
 | true=>
   refine AWp.draw zK ?_;refine xE5 ?_;refine zKg zJk rfl rfl rfl rfl rfl rfl Tryz.underlying115 Tryz.underlying4 (fun u=>by kernel_rfl) hkl ?_;refine xE5 ?_;refine aB ⟨by kernel_rfl,?_⟩;have hG':(true && gP p (.agg (zF0 l1 c1 l2 c2).toArray))=v:=hG;refine vB [5,10] ?_
   refine⟨mkL 63 2 [(6,.c (bC v))] [(1000,srB p 1001 st),(1001,knB p)] [],[],_,[srB p 1001 st,knB p],[],⟨rfl,rfl,rfl⟩,rfl,zQ [] rfl rfl rfl rfl rfl ?_ ?_,rfl,rfl,GRets.one (x:=.c _) (GRes.tmp rfl)⟩
   ·exact⟨⟨_,rfl,.c (zDa (congrArg bC hG') rfl)⟩,trivial⟩
   ·exact⟨
    zAe rfl rfl ⟨LeC.refl _ rfl,LeC.refl _ rfl,LeC.refl _ rfl,LeC.refl _ rfl,LeC.refl _ rfl,LeC.owB 1001 rfl,LeC.int rfl,trivial⟩ rfl,zAK rfl rfl (fun _ _ h=>h.1),trivial⟩
 | false=>
   refine AWp.draw zK ?_;refine xE5 ?_;refine zKg zJk rfl rfl rfl rfl rfl rfl Tryz.underlying115 Tryz.underlying4 (fun u=>by kernel_rfl) hkl ?_;refine xE5 ?_;refine aB ⟨by kernel_rfl,?_⟩;refine AWp.weak (S':=
    mkL 63 2 [(0,.c (.pt 1000 7 0 0)),(4,.c (.pt 4 2 0 0)),(5,.c (.pt 5 2 0 0)),(7,.c (.pt 7 4 0 0)),(8,.c (bC false)),(9,.c (bC false))] [(4,⟨false,1,2,141,lF [iC l1,iC c1]⟩),(5,⟨false,1,2,141,lF [iC l2,iC c2]⟩),(7,⟨false,1,4,148,lF [iC l1,iC c1,iC l2,iC c2]⟩),(1000,srB p 1001 st),(1001,knB p)] [4,5,7]
    ) (zQ [(4,some 4),(5,some 5),(7,some 7)] rfl rfl rfl rfl rfl ?_ ?_) ?_
   ·repeat (first|exact trivial|refine⟨⟨_,rfl,by first|exact LeA.c (LeC.ptB _ _ _ _ rfl)|exact leT⟩,?_⟩)
   ·exact⟨hSm,hSm,hSm,
    zAe rfl rfl ⟨LeC.refl _ rfl,LeC.refl _ rfl,LeC.refl _ rfl,LeC.refl _ rfl,LeC.refl _ rfl,LeC.owB 1001 rfl,LeC.int rfl,trivial⟩ rfl,zAK rfl rfl (fun _ _ h=>h.1),trivial⟩
   repeat (first
    |refine vB [5] ?_
    | (refine rG 6 ?_
       refine xE2 ?_;refine AList.callG [1000,1001] [] [srB p 1001 st,knB p] [srB p 1001 st,knB p] [] [srB p 1001 st,knB p] [] rfl rfl FnV.func rfl Tryz.func90 rfl xC (zBD rfl rfl rfl rfl trivial) rfl (zEK (bpC (zBZ p l1 c1)) (bgC (zB0 p l1 c1)) rfl rfl) (zBB rfl trivial) (trivial) (hL1) ?_;refine xE7 ?_;refine aB ?_)
    | (refine rG 7 ?_
       refine xE2 ?_;refine AList.callG [1000,1001] [] [srB p 1001 st,knB p] [srB p 1001 st,knB p] [] [srB p 1001 st,knB p] [] rfl rfl FnV.func rfl Tryz.func90 rfl xC (zBD rfl rfl rfl rfl trivial) rfl (zEK (bpC (zBZ p l2 c2)) (bgC (zB0 p l2 c2)) rfl rfl) (zBB rfl trivial) (trivial) (hL2) ?_;refine xE7 ?_;refine aB ?_)
    |(refine AWp.draw (id:=8) zK ?_;refine xE8 ?_;refine xB Tryz.func79 hC ?_;refine xE5 ?_;refine aB ⟨by kernel_rfl,?_⟩))
   refine AWp.draw zK ?_;refine xE6 ?_;refine zOs zJk rfl rfl rfl rfl (congrArg (fun z=>some (AV.c (CV.p (.bool z)))) hG.symm) rfl (fun _ _ h=>h) Tryz.underlying115 hkl ?_;refine aB ⟨by kernel_rfl,?_⟩;refine vB [10] ?_
   refine⟨mkL 63 2 [(6,.c (bC v))] [(1000,srB p 1001 st),(1001,knB p)] [],[],_,[srB p 1001 st,knB p],[],⟨rfl,rfl,rfl⟩,rfl,zQ [] rfl rfl rfl rfl rfl ?_ ?_,rfl,rfl,GRets.one (x:=.c _) (GRes.tmp rfl)⟩
   ·exact zB
   ·exact⟨
    zAe rfl rfl ⟨LeC.refl _ rfl,LeC.refl _ rfl,LeC.refl _ rfl,LeC.refl _ rfl,LeC.refl _ rfl,LeC.owB 1001 rfl,LeC.int rfl,trivial⟩ rfl,zAK rfl rfl (fun _ _ h=>h)
    ,trivial⟩
def zAW(p:Pb)(n:Nat)(ch:Nat→Int)(c:Int):Bool:=(List.range p.F.length).all (fun k=> !pkV p n c (-1) k) && (List.range n).all (fun k=> !pkV p n c k (ch k))
theorem freeV_iff{p:Pb}{n:Nat}{ch:Nat→Int}{c:Int}:zAW p n ch c=true↔(∀k,k<p.F.length→pkV p n c (-1) k=false)∧(∀k,k<n→pkV p n c k (ch k)=false):=by
 unfold zAW
 simp[List.all_eq_true]
theorem zFK{p:Pb}{n:Nat}{ch:Nat→Int}{c:Int}(h:¬((∀k,k<p.F.length→pkV p n c (-1) k=false)∧(∀k,k<n→pkV p n c k (ch k)=false))):zAW p n ch c=false:=
 Bool.eq_false_iff.2 fun e=>h (freeV_iff.1 e)
theorem zNP(p:Pb)(hp:p.ok)(hT:p.T.length=p.F.length)(st:Int)(n:Nat)(ch:Nat→Int)(c:Int)(hn:n≤1000000)(h1:PkOk p n c)(h2:∀k,k<n→PkOk p k (ch k)):zCg Tryz.prog 69 [.c (.pt 1000 7 0 0),.c (.ls n 1 (iF ch)),.c (iC c)] [srB p 1001 st,knB p] (.c (bC (zAW p n ch c))) [srB p 1001 st,knB p] []:=by
 have hp':=hp
 obtain⟨hrd,lR,lC,lF',lO,lT,lc⟩:=hp
 have hsc:=fun k h2 (hne:((n:Nat):Int)≠-1)=>zHp p hp' st n c (-1) ((k:Nat):Int) h1 h2 hne
 have hsd:=fun k h2 (hne:((n:Nat):Int)≠((k:Nat):Int))=>zHp p hp' st n c k (ch k) h1 h2 hne
 refine zBw Tryz.func69 rfl rfl Tryz.ntmps69 rfl ?_;refine vB [0,1,2] ?_;refine AWp.round (fun k:Nat=>
  mkL 44 2 [(0,.c (.pt 1000 7 0 0)),(1,.c (.ls n 1 (iF ch))),(7,.c (.pt 7 2 0 0)),(20,.c (iC p.F.length)),(21,.c (iC (k:Nat)))] [(7,⟨false,1,2,141,lF [iC n,iC c]⟩),(1000,srB p 1001 st),(1001,knB p)] [7]
  ) (fun k=>k≤p.F.length∧∀j,j<k→pkV p n c (-1) j=false) (fun k=>p.F.length-k) 0 ⟨Nat.zero_le _,fun _ h=>absurd h (Nat.not_lt_zero _)⟩ ?_ (fun k hk=> ?_)
 ·refine zQ [(7,some 7)] rfl rfl rfl rfl rfl ?_ ?_
  ·repeat (first|exact trivial|refine⟨⟨_,rfl,by first|exact LeA.c (LeC.ptB _ _ _ _ rfl)|exact LeA.c (LeC.owB _ rfl)|exact leT⟩,?_⟩)
  ·exact⟨hSm,
   zAe rfl rfl ⟨LeC.refl _ rfl,LeC.refl _ rfl,LeC.refl _ rfl,LeC.refl _ rfl,LeC.refl _ rfl,LeC.owB 1001 rfl,LeC.int rfl,trivial⟩ rfl,zAK rfl rfl (fun _ _ h=>h)
   ,trivial⟩
 obtain⟨hk,hno⟩:=hk
 by_cases hkl:k<p.F.length
 ·have hkl':(k:Int)<p.F.length:=by omega
  have hct:=hsc k (.inl ⟨rfl,k,rfl,hkl,by omega⟩) xD;have hfr:= @zFK p n ch c
  obtain⟨v,hv⟩:∃v,pkV p n c (-1) k=v:=⟨_,rfl⟩
  rw[hv]at hct
  cases v with
  | true=>
    rw[hfr fun h=>by rw[h.1 k hkl]at hv;cases hv]
    repeat (first
     |refine vB [3,4,6] ?_
     | (refine rG 5 ?_
        refine xE4 ?_;refine AList.callG [1000,1001] [] [srB p 1001 st,knB p] [srB p 1001 st,knB p] [] [srB p 1001 st,knB p] [] rfl rfl FnV.func rfl Tryz.func84 rfl xC (zBD rfl rfl rfl rfl trivial) rfl (zCh (bC true) rfl) (zBB rfl trivial) (trivial) (hct) ?_;refine aB ?_))
    refine⟨mkL 44 2 [(6,.c (bC false))] [(1000,srB p 1001 st),(1001,knB p)] [],[],_,[srB p 1001 st,knB p],[],⟨rfl,rfl,rfl⟩,rfl,zQ [] rfl rfl rfl rfl rfl ?_ ?_,rfl,rfl,GRets.one (x:=.c _) (GRes.tmp rfl)⟩
    ·exact zB
    ·exact⟨
     zAe rfl rfl ⟨LeC.refl _ rfl,LeC.refl _ rfl,LeC.refl _ rfl,LeC.refl _ rfl,LeC.refl _ rfl,LeC.owB 1001 rfl,LeC.int rfl,trivial⟩ rfl,zAK rfl rfl (fun _ _ h=>h)
     ,trivial⟩
  | false=>
    repeat (first
     |refine vB [3,4,7] ?_
     | (refine rG 5 ?_
        refine xE4 ?_;refine AList.callG [1000,1001] [] [srB p 1001 st,knB p] [srB p 1001 st,knB p] [] [srB p 1001 st,knB p] [] rfl rfl FnV.func rfl Tryz.func84 rfl xC (zBD rfl rfl rfl rfl trivial) rfl (zCh (bC false) rfl) (zBB rfl trivial) (trivial) (hct) ?_;refine aB ?_))
    refine⟨k+1,⟨hkl,fun j hj=> ?_⟩,zQ [(7,some 7)] rfl rfl rfl rfl rfl ?_ ?_,by omega⟩
    ·by_cases e:j=k
     ·rw[e];exact hv
     ·exact hno j xD
    ·repeat (first|exact trivial|refine⟨⟨_,rfl,by first|exact LeA.c (LeC.ptB _ _ _ _ rfl)|exact LeA.c (LeC.owB _ rfl)|exact leT⟩,?_⟩)
    ·exact⟨hSm,
     zAe rfl rfl ⟨LeC.refl _ rfl,LeC.refl _ rfl,LeC.refl _ rfl,LeC.refl _ rfl,LeC.refl _ rfl,LeC.owB 1001 rfl,LeC.int rfl,trivial⟩ rfl,zAK rfl rfl (fun _ _ h=>h)
     ,trivial⟩
 have hkl':¬(k:Int)<p.F.length:=by omega
 obtain rfl:k=p.F.length:=by omega
 clear hk hkl;refine vB [3,8] ?_;refine AWp.round (fun k:Nat=>
  mkL 44 2 [(0,.c (.pt 1000 7 0 0)),(1,.c (.ls n 1 (iF ch))),(7,.c (.pt 7 2 0 0)),(30,.c (.ls n 1 (iF ch))),(31,.c (iC n)),(32,.c (iC (k:Nat)))] [(7,⟨false,1,2,141,lF [iC n,iC c]⟩),(1000,srB p 1001 st),(1001,knB p)] [7]
  ) (fun k=>k≤n∧∀j,j<k→pkV p n c j (ch j)=false) (fun k=>n-k) 0 ⟨Nat.zero_le _,fun _ h=>absurd h (Nat.not_lt_zero _)⟩ ?_ (fun k hk=> ?_)
 ·refine zQ [(7,some 7)] rfl rfl rfl rfl rfl ?_ ?_
  ·repeat (first|exact trivial|refine⟨⟨_,rfl,by first|exact LeA.c (LeC.ptB _ _ _ _ rfl)|exact LeA.c (LeC.owB _ rfl)|exact leT⟩,?_⟩)
  ·exact⟨hSm,
   zAe rfl rfl ⟨LeC.refl _ rfl,LeC.refl _ rfl,LeC.refl _ rfl,LeC.refl _ rfl,LeC.refl _ rfl,LeC.owB 1001 rfl,LeC.int rfl,trivial⟩ rfl,zAK rfl rfl (fun _ _ h=>h)
   ,trivial⟩
 obtain⟨hk,hno2⟩:=hk
 by_cases hkl:k<n
 ·have hkl':(k:Int)<n:=by omega
  have hct:=hsd k (h2 k hkl) xD;have hfr:= @zFK p n ch c
  obtain⟨v,hv⟩:∃v,pkV p n c k (ch k)=v:=⟨_,rfl⟩
  rw[hv]at hct
  cases v with
  | true=>
    rw[hfr fun h=>by rw[h.2 k hkl]at hv;cases hv]
    repeat (first
     |refine vB [9,12] ?_
     | (refine rG 10 ?_
        refine vA ?_;refine zG (aP (k:=k) zA) ?_;refine xE3 ?_;refine aB ?_)
     | (refine rG 11 ?_
        refine xE5 ?_;refine AList.callG [1000,1001] [] [srB p 1001 st,knB p] [srB p 1001 st,knB p] [] [srB p 1001 st,knB p] [] rfl rfl FnV.func rfl Tryz.func84 rfl xC (zBD rfl rfl rfl rfl trivial) rfl (zCh (bC true) rfl) (zBB rfl trivial) (trivial) (hct) ?_;refine aB ?_))
    refine⟨mkL 44 2 [(6,.c (bC false))] [(1000,srB p 1001 st),(1001,knB p)] [],[],_,[srB p 1001 st,knB p],[],⟨rfl,rfl,rfl⟩,rfl,zQ [] rfl rfl rfl rfl rfl ?_ ?_,rfl,rfl,GRets.one (x:=.c _) (GRes.tmp rfl)⟩
    ·exact zB
    ·exact⟨
     zAe rfl rfl ⟨LeC.refl _ rfl,LeC.refl _ rfl,LeC.refl _ rfl,LeC.refl _ rfl,LeC.refl _ rfl,LeC.owB 1001 rfl,LeC.int rfl,trivial⟩ rfl,zAK rfl rfl (fun _ _ h=>h)
     ,trivial⟩
  | false=>
    repeat (first
     |refine vB [9,13] ?_
     | (refine rG 10 ?_
        refine vA ?_;refine zG (aP (k:=k) zA) ?_;refine xE3 ?_;refine aB ?_)
     | (refine rG 11 ?_
        refine xE5 ?_;refine AList.callG [1000,1001] [] [srB p 1001 st,knB p] [srB p 1001 st,knB p] [] [srB p 1001 st,knB p] [] rfl rfl FnV.func rfl Tryz.func84 rfl xC (zBD rfl rfl rfl rfl trivial) rfl (zCh (bC false) rfl) (zBB rfl trivial) (trivial) (hct) ?_;refine aB ?_))
    refine⟨k+1,⟨hkl,fun j hj=> ?_⟩,zQ [(7,some 7)] rfl rfl rfl rfl rfl ?_ ?_,by omega⟩
    ·by_cases e:j=k
     ·rw[e];exact hv
     ·exact hno2 j xD
    ·repeat (first|exact trivial|refine⟨⟨_,rfl,by first|exact LeA.c (LeC.ptB _ _ _ _ rfl)|exact LeA.c (LeC.owB _ rfl)|exact leT⟩,?_⟩)
    ·exact⟨hSm,
     zAe rfl rfl ⟨LeC.refl _ rfl,LeC.refl _ rfl,LeC.refl _ rfl,LeC.refl _ rfl,LeC.refl _ rfl,LeC.owB 1001 rfl,LeC.int rfl,trivial⟩ rfl,zAK rfl rfl (fun _ _ h=>h)
     ,trivial⟩
 have hkl':¬(k:Int)<n:=by omega
 obtain rfl:n=k:=by omega
 rw[freeV_iff.2 ⟨hno,hno2⟩];refine vB [9,14] ?_
 refine⟨mkL 44 2 [(6,.c (bC true))] [(1000,srB p 1001 st),(1001,knB p)] [],[],_,[srB p 1001 st,knB p],[],⟨rfl,rfl,rfl⟩,rfl,zQ [] rfl rfl rfl rfl rfl ?_ ?_,rfl,rfl,GRets.one (x:=.c _) (GRes.tmp rfl)⟩
 ·exact zB
 ·exact⟨
  zAe rfl rfl ⟨LeC.refl _ rfl,LeC.refl _ rfl,LeC.refl _ rfl,LeC.refl _ rfl,LeC.refl _ rfl,LeC.owB 1001 rfl,LeC.int rfl,trivial⟩ rfl,zAK rfl rfl (fun _ _ h=>h)
  ,trivial⟩
theorem zR5(p:Pb)(hp:p.ok)(hT:p.T.length=p.F.length)(st:Int)(n:Nat)(ch:Nat→Int)(c:Int)(hn:n≤1000000)(h1:PkOk p n c)(h2:∀k,k<n→PkOk p k (ch k)):zCg Tryz.prog 69 [.c (.pt 1000 7 0 0),.c (.ow 1002),.c (iC c)] [srB p 1001 st,knB p,zAc n ch] (.c (bC (zAW p n ch c))) [srB p 1001 st,knB p,zAc n ch] []:=by
 have hp':=hp
 obtain⟨hrd,lR,lC,lF',lO,lT,lc⟩:=hp
 have hsc:=fun k h2 (hne:((n:Nat):Int)≠-1)=>zHp p hp' st n c (-1) ((k:Nat):Int) h1 h2 hne
 have hsd:=fun k h2 (hne:((n:Nat):Int)≠((k:Nat):Int))=>zHp p hp' st n c k (ch k) h1 h2 hne
 refine zBw Tryz.func69 rfl rfl Tryz.ntmps69 rfl ?_;refine vB [0,1,2] ?_;refine AWp.round (fun k:Nat=>
  mkL 44 3 [(0,.c (.pt 1000 7 0 0)),(1,.c (.ow 1002)),(7,.c (.pt 7 2 0 0)),(20,.c (iC p.F.length)),(21,.c (iC (k:Nat)))] [(7,⟨false,1,2,141,lF [iC n,iC c]⟩),(1000,srB p 1001 st),(1001,knB p),(1002,zAc n ch)] [7]
  ) (fun k=>k≤p.F.length∧∀j,j<k→pkV p n c (-1) j=false) (fun k=>p.F.length-k) 0 ⟨Nat.zero_le _,fun _ h=>absurd h (Nat.not_lt_zero _)⟩ ?_ (fun k hk=> ?_)
 ·refine zQ [(7,some 7)] rfl rfl rfl rfl rfl ?_ ?_
  ·repeat (first|exact trivial|refine⟨⟨_,rfl,by first|exact LeA.c (LeC.ptB _ _ _ _ rfl)|exact LeA.c (LeC.owB _ rfl)|exact leT⟩,?_⟩)
  ·exact⟨hSm,
   zAe rfl rfl ⟨LeC.refl _ rfl,LeC.refl _ rfl,LeC.refl _ rfl,LeC.refl _ rfl,LeC.refl _ rfl,LeC.owB 1001 rfl,LeC.int rfl,trivial⟩ rfl,zAK rfl rfl (fun _ _ h=>h)
   ,zAo rfl rfl (fun i _=>zAa ⟨rfl,rfl⟩),trivial⟩
 obtain⟨hk,hno⟩:=hk
 by_cases hkl:k<p.F.length
 ·have hkl':(k:Int)<p.F.length:=by omega
  have hct:=hsc k (.inl ⟨rfl,k,rfl,hkl,by omega⟩) xD;have hfr:= @zFK p n ch c
  obtain⟨v,hv⟩:∃v,pkV p n c (-1) k=v:=⟨_,rfl⟩
  rw[hv]at hct
  cases v with
  | true=>
    rw[hfr fun h=>by rw[h.1 k hkl]at hv;cases hv]
    repeat (first
     |refine vB [3,4,6] ?_
     | (refine rG 5 ?_
        refine xE4 ?_;refine AList.callG [1000,1001] [] [srB p 1001 st,knB p] [srB p 1001 st,knB p] [] [srB p 1001 st,knB p] [] rfl rfl FnV.func rfl Tryz.func84 rfl xC (zBD rfl rfl rfl rfl trivial) rfl (zCh (bC true) rfl) (zBB rfl trivial) (trivial) (hct) ?_;refine aB ?_))
    refine⟨mkL 44 3 [(6,.c (bC false))] [(1000,srB p 1001 st),(1001,knB p),(1002,zAc n ch)] [],[],_,[srB p 1001 st,knB p,zAc n ch],[],⟨rfl,rfl,rfl⟩,rfl,zQ [] rfl rfl rfl rfl rfl ?_ ?_,rfl,rfl,GRets.one (x:=.c _) (GRes.tmp rfl)⟩
    ·exact zB
    ·exact⟨
     zAe rfl rfl ⟨LeC.refl _ rfl,LeC.refl _ rfl,LeC.refl _ rfl,LeC.refl _ rfl,LeC.refl _ rfl,LeC.owB 1001 rfl,LeC.int rfl,trivial⟩ rfl,zAK rfl rfl (fun _ _ h=>h)
     ,zAo rfl rfl (fun i _=>zAa ⟨rfl,rfl⟩),trivial⟩
  | false=>
    repeat (first
     |refine vB [3,4,7] ?_
     | (refine rG 5 ?_
        refine xE4 ?_;refine AList.callG [1000,1001] [] [srB p 1001 st,knB p] [srB p 1001 st,knB p] [] [srB p 1001 st,knB p] [] rfl rfl FnV.func rfl Tryz.func84 rfl xC (zBD rfl rfl rfl rfl trivial) rfl (zCh (bC false) rfl) (zBB rfl trivial) (trivial) (hct) ?_;refine aB ?_))
    refine⟨k+1,⟨hkl,fun j hj=> ?_⟩,zQ [(7,some 7)] rfl rfl rfl rfl rfl ?_ ?_,by omega⟩
    ·by_cases e:j=k
     ·rw[e];exact hv
     ·exact hno j xD
    ·repeat (first|exact trivial|refine⟨⟨_,rfl,by first|exact LeA.c (LeC.ptB _ _ _ _ rfl)|exact LeA.c (LeC.owB _ rfl)|exact leT⟩,?_⟩)
    ·exact⟨hSm,
     zAe rfl rfl ⟨LeC.refl _ rfl,LeC.refl _ rfl,LeC.refl _ rfl,LeC.refl _ rfl,LeC.refl _ rfl,LeC.owB 1001 rfl,LeC.int rfl,trivial⟩ rfl,zAK rfl rfl (fun _ _ h=>h)
     ,zAo rfl rfl (fun i _=>zAa ⟨rfl,rfl⟩),trivial⟩
 have hkl':¬(k:Int)<p.F.length:=by omega
 obtain rfl:k=p.F.length:=by omega
 clear hk hkl;refine vB [3,8] ?_;refine AWp.round (fun k:Nat=>
  mkL 44 3 [(0,.c (.pt 1000 7 0 0)),(1,.c (.ow 1002)),(7,.c (.pt 7 2 0 0)),(30,.c (.ow 1002)),(31,.c (iC n)),(32,.c (iC (k:Nat)))] [(7,⟨false,1,2,141,lF [iC n,iC c]⟩),(1000,srB p 1001 st),(1001,knB p),(1002,zAc n ch)] [7]
  ) (fun k=>k≤n∧∀j,j<k→pkV p n c j (ch j)=false) (fun k=>n-k) 0 ⟨Nat.zero_le _,fun _ h=>absurd h (Nat.not_lt_zero _)⟩ ?_ (fun k hk=> ?_)
 ·refine zQ [(7,some 7)] rfl rfl rfl rfl rfl ?_ ?_
  ·repeat (first|exact trivial|refine⟨⟨_,rfl,by first|exact LeA.c (LeC.ptB _ _ _ _ rfl)|exact LeA.c (LeC.owB _ rfl)|exact leT⟩,?_⟩)
  ·exact⟨hSm,
   zAe rfl rfl ⟨LeC.refl _ rfl,LeC.refl _ rfl,LeC.refl _ rfl,LeC.refl _ rfl,LeC.refl _ rfl,LeC.owB 1001 rfl,LeC.int rfl,trivial⟩ rfl,zAK rfl rfl (fun _ _ h=>h)
   ,zAo rfl rfl (fun i _=>zAa ⟨rfl,rfl⟩),trivial⟩
 obtain⟨hk,hno2⟩:=hk
 by_cases hkl:k<n
 ·have hkl':(k:Int)<n:=by omega
  have hct:=hsd k (h2 k hkl) xD;have hfr:= @zFK p n ch c
  obtain⟨v,hv⟩:∃v,pkV p n c k (ch k)=v:=⟨_,rfl⟩
  rw[hv]at hct
  cases v with
  | true=>
    rw[hfr fun h=>by rw[h.2 k hkl]at hv;cases hv]
    repeat (first
     |refine vB [9,12] ?_
     | (refine rG 10 ?_
        refine vA ?_;refine zI (zH (k:=k) zA) ?_;refine xE3 ?_;refine aB ?_)
     | (refine rG 11 ?_
        refine xE5 ?_;refine AList.callG [1000,1001] [] [srB p 1001 st,knB p] [srB p 1001 st,knB p] [] [srB p 1001 st,knB p] [] rfl rfl FnV.func rfl Tryz.func84 rfl xC (zBD rfl rfl rfl rfl trivial) rfl (zCh (bC true) rfl) (zBB rfl trivial) (trivial) (hct) ?_;refine aB ?_))
    refine⟨mkL 44 3 [(6,.c (bC false))] [(1000,srB p 1001 st),(1001,knB p),(1002,zAc n ch)] [],[],_,[srB p 1001 st,knB p,zAc n ch],[],⟨rfl,rfl,rfl⟩,rfl,zQ [] rfl rfl rfl rfl rfl ?_ ?_,rfl,rfl,GRets.one (x:=.c _) (GRes.tmp rfl)⟩
    ·exact zB
    ·exact⟨
     zAe rfl rfl ⟨LeC.refl _ rfl,LeC.refl _ rfl,LeC.refl _ rfl,LeC.refl _ rfl,LeC.refl _ rfl,LeC.owB 1001 rfl,LeC.int rfl,trivial⟩ rfl,zAK rfl rfl (fun _ _ h=>h)
     ,zAo rfl rfl (fun i _=>zAa ⟨rfl,rfl⟩),trivial⟩
  | false=>
    repeat (first
     |refine vB [9,13] ?_
     | (refine rG 10 ?_
        refine vA ?_;refine zI (zH (k:=k) zA) ?_;refine xE3 ?_;refine aB ?_)
     | (refine rG 11 ?_
        refine xE5 ?_;refine AList.callG [1000,1001] [] [srB p 1001 st,knB p] [srB p 1001 st,knB p] [] [srB p 1001 st,knB p] [] rfl rfl FnV.func rfl Tryz.func84 rfl xC (zBD rfl rfl rfl rfl trivial) rfl (zCh (bC false) rfl) (zBB rfl trivial) (trivial) (hct) ?_;refine aB ?_))
    refine⟨k+1,⟨hkl,fun j hj=> ?_⟩,zQ [(7,some 7)] rfl rfl rfl rfl rfl ?_ ?_,by omega⟩
    ·by_cases e:j=k
     ·rw[e];exact hv
     ·exact hno2 j xD
    ·repeat (first|exact trivial|refine⟨⟨_,rfl,by first|exact LeA.c (LeC.ptB _ _ _ _ rfl)|exact LeA.c (LeC.owB _ rfl)|exact leT⟩,?_⟩)
    ·exact⟨hSm,
     zAe rfl rfl ⟨LeC.refl _ rfl,LeC.refl _ rfl,LeC.refl _ rfl,LeC.refl _ rfl,LeC.refl _ rfl,LeC.owB 1001 rfl,LeC.int rfl,trivial⟩ rfl,zAK rfl rfl (fun _ _ h=>h)
     ,zAo rfl rfl (fun i _=>zAa ⟨rfl,rfl⟩),trivial⟩
 have hkl':¬(k:Int)<n:=by omega
 obtain rfl:n=k:=by omega
 rw[freeV_iff.2 ⟨hno,hno2⟩];refine vB [9,14] ?_
 refine⟨mkL 44 3 [(6,.c (bC true))] [(1000,srB p 1001 st),(1001,knB p),(1002,zAc n ch)] [],[],_,[srB p 1001 st,knB p,zAc n ch],[],⟨rfl,rfl,rfl⟩,rfl,zQ [] rfl rfl rfl rfl rfl ?_ ?_,rfl,rfl,GRets.one (x:=.c _) (GRes.tmp rfl)⟩
 ·exact zB
 ·exact⟨
  zAe rfl rfl ⟨LeC.refl _ rfl,LeC.refl _ rfl,LeC.refl _ rfl,LeC.refl _ rfl,LeC.refl _ rfl,LeC.owB 1001 rfl,LeC.int rfl,trivial⟩ rfl,zAK rfl rfl (fun _ _ h=>h)
  ,zAo rfl rfl (fun i _=>zAa ⟨rfl,rfl⟩),trivial⟩
end Go.Proofs.YtbffmfeldkjkcaaGreat
end
section
namespace Go.AV
open Go Go.RowKit Go.Flow
theorem GE.cv{P:Program}{f:FuncId}{args args':List V1}{hs:List AB}{R:AV→List AB→List AB→Prop}(h:GE P f args hs R)(hc:LeL CvV args' args):GE P f args' hs R:=fun b0 vals h1 h2 h3 h4=>h b0 vals h1 h2 h3 (CvL.rep hc h4)
end Go.AV
namespace Go.Proofs.YtbffmfeldkjkcaaGreat
open Go.RowKit Go.Flow Go.AV Go.Plain
abbrev FR:=List Int×Int×Int
abbrev fI(ch:List Int)(k:Nat):Int:=ch.getD k 0
abbrev lsI(ch:List Int):CV:=.ls ch.length 1 (iF (fI ch))
def zBK(rec:List Int→Int→FR)(p:Pb)(ch:List Int):Nat→Nat→Int→FR
 |0,_,st=>([],60,st)
 |r+1,c,st=>if 20000<st+1 then ([],61,st+1)else if zAW p ch.length (fI ch) c=true then (if (rec (ch++ [(c:Int)]) (st+1)).2.1=60 then zBK rec p ch r (c+1) (rec (ch++ [(c:Int)]) (st+1)).2.2 else rec (ch++ [(c:Int)]) (st+1))else zBK rec p ch r (c+1) (st+1)
def zAI(p:Pb):Nat→List Int→Int→FR
 |0,ch,st=>(ch,0,st)
 |m+1,ch,st=>zBK (zAI p m) p ch (p.C.getD ch.length []).length 0 st
section
variable{rec:List Int→Int→FR}{p:Pb}{ch:List Int}{r c:Nat}{st:Int}
theorem zGi(h:20000<st+1):zBK rec p ch (r+1) c st=([],61,st+1):=if_pos h
theorem zGj(h:¬20000<st+1)(hf:zAW p ch.length (fI ch) c=false):zBK rec p ch (r+1) c st=zBK rec p ch r (c+1) (st+1):=by
 show(if _ then _ else _)=_
 rw[if_neg h,if_neg (by rw[hf];simp)]
theorem zGg(h:¬20000<st+1)(hf:zAW p ch.length (fI ch) c=true)(he:(rec (ch++ [(c:Int)]) (st+1)).2.1=60):zBK rec p ch (r+1) c st=zBK rec p ch r (c+1) (rec (ch++ [(c:Int)]) (st+1)).2.2:=by
 show(if _ then _ else _)=_
 rw[if_neg h,if_pos hf,if_pos he]
theorem zGh(h:¬20000<st+1)(hf:zAW p ch.length (fI ch) c=true)(he:(rec (ch++ [(c:Int)]) (st+1)).2.1≠60):zBK rec p ch (r+1) c st=rec (ch++ [(c:Int)]) (st+1):=by
 show(if _ then _ else _)=_
 rw[if_neg h,if_pos hf,if_neg he]
end
def zH2(o:FR):Prop:=0≤o.2.2∧(o.2.1=60→o.2.2≤20000)
theorem zJS{rec:List Int→Int→FR}{p:Pb}{ch:List Int}(hr:∀ch st,0≤st∧st≤20000→zH2 (rec ch st)):∀(r c:Nat) (st:Int),0≤st∧st≤20000→zH2 (zBK rec p ch r c st)
 |0,_,st,h=>⟨h.1,fun _=>h.2⟩
 | r+1,c,st,h=>by
   by_cases h1:20000<st+1
   ·rw[zGi h1];exact⟨by show 0≤st+1;omega,fun e=>by cases e⟩
   ·cases hf:zAW p ch.length (fI ch) c with
    |false=>rw[zGj h1 hf];exact zJS hr r _ _ ⟨by omega,by omega⟩
    | true=>
      have h2:=hr (ch++ [(c:Int)]) (st+1) ⟨by omega,by omega⟩;by_cases he:(rec (ch++ [(c:Int)]) (st+1)).2.1=60
      ·rw[zGg h1 hf he];exact zJS hr r _ _ ⟨h2.1,h2.2 he⟩
      ·rw[zGh h1 hf he];exact h2
theorem zGV{p:Pb}:∀(m:Nat) (ch:List Int) (st:Int),0≤st∧st≤20000→zH2 (zAI p m ch st)
 |0,_,st,h=>⟨h.1,fun e=>by cases e⟩
 |m+1,ch,st,h=>zJS (zGV m) _ _ _ h
theorem zIL(ch:List Int)(c:Int):∀k,k<ch.length→fI (ch++ [c]) k=fI ch k:=fun k hk=>by
 show(ch++ [c]).getD k 0=ch.getD k 0
 rw[List.getD_eq_getElem?_getD,List.getElem?_append_left hk,←List.getD_eq_getElem?_getD]
theorem zIJ(ch:List Int)(c:Int):fI (ch++ [c]) ch.length=c:=by
 show(ch++ [c]).getD ch.length 0=c
 simp
theorem zDt(ch:List Int)(c:Int):∀i,i<ch.length+1→∀j,j<1→zAj (iF (fI ch)) ch.length (sF [iC c] 1) i j=iF (fI (ch++ [c])) i j∧zM (zAj (iF (fI ch)) ch.length (sF [iC c] 1) i j)=true:=
 zFt (G:=iF (fI (ch++ [c]))) (fun i hi j _=>by show CV.p _=CV.p _;rw[zIL ch c i hi]) (zAa (by show iC c=CV.p _;rw[zIJ])) (fun _ _ _ _=>rfl)
def ChOk(p:Pb)(ch:List Int):Prop:=∀k,k<ch.length→PkOk p k (fI ch k)
theorem ChOk.snoc{p:Pb}{ch:List Int}{c:Int}(h:ChOk p ch)(hc:PkOk p ch.length c):ChOk p (ch++ [c]):=fun k hk=>by
 rw[List.length_append]at hk;have hk:k<ch.length+1:=hk;by_cases e:k=ch.length
 ·rw[e,zIJ];exact hc
 ·rw[zIL ch c k xD];exact h k xD
structure Pb.fit(p:Pb):Prop where
 ok:p.ok
 t:p.T.length=p.F.length
 o:p.O.length=p.C.length
 c:p.C.length≤200
 f:p.F.length≤200
 l:∀l∈p.C,l.length≤32
theorem Pb.fit.pk{p:Pb}(h:p.fit){n:Nat}(hn:n<p.C.length){c:Nat}(hc:c<(p.C.getD n []).length):PkOk p n c:=.inr ⟨n,c,rfl,rfl,hn,by rw[h.o];exact hn,hc⟩
end Go.Proofs.YtbffmfeldkjkcaaGreat
end
