/- Parts of the proof: A30n. -/
import Derived.Test.YtbffmfeldkjkcaaG41
set_option linter.unusedSimpArgs false
set_option linter.unusedVariables false
set_option maxHeartbeats 0
set_option maxRecDepth 100000
section
namespace Go.Proofs.Ytbffmfeldkjkcaa
open Go.RowKit Go.Flow Go.AV Go.Plain
def zD2(p:Pb)(H:List Hg)(s:List Int):Bool:=decide ((zAe p H s).2=0) && (decide ((zAy (zAe p H s).1).2=0)||decide ((zAy (zAe p H s).1).2=61))
def zCA(p:Pb)(c s:List Int):Pl:=⟨s,s.map fun i=>fI c (p.C.length+i.toNat),c.take p.C.length⟩
def zGh(p:Pb)(H:List Hg)(s:List Int):Pl×Int:=if (zAy (zAe p H s).1).2=0 then (zCA p (zAy (zAe p H s).1).1 s,0)else (plZ,61)
def zJw(p:Pb)(H:List Hg):Option (List Int)→Pl×Int
 |some s=>zGh p H s
 |none=>(plZ,60)
def zCp(p:Pb)(H:List Hg):Pl×Int:=
 if zAr p=0 then
  if 8<H.length then (plZ,2)else
  if (zAe p H []).2=0 then
   if (zAe p H (zCI H.length)).2=0 then zJw p H ((zBz H.length (H.length+1)).find? (zD2 p H))else (plZ,(zAe p H (zCI H.length)).2)
  else (plZ,(zAe p H []).2)
 else (plZ,zAr p)
theorem zGC{p:Pb}{H:List Hg}{s:List Int}(h:(zAe p H s).2=0):zAe p H s=(anP p H s,0)∧zAr p=0∧zAP H.length s=true∧zAr (anP p H s)=0:=by
 unfold zAe at h⊢;by_cases h1:zAr p=0
 ·rw[if_pos h1]at h⊢
  by_cases h2:zAP H.length s=true
  ·rw[if_pos h2]at h⊢
   by_cases h3:zAr (anP p H s)=0
   ·rw[if_pos h3]
    exact⟨rfl,h1,h2,h3⟩
   ·rw[if_neg h3]at h
    exact absurd h h3
  ·rw[if_neg h2]at h
   exact absurd h (by decide)
 ·rw[if_neg h1]at h
  exact absurd h h1
theorem zJ4{rec:List Int→Int→FR}{p:Pb}{ch:List Int}{L:Nat}(hr:∀c st,(rec (ch++ [c]) st).2.1=0→(rec (ch++ [c]) st).1.length=L):∀(r c:Nat) (st:Int),(zBA rec p ch r c st).2.1=0→(zBA rec p ch r c st).1.length=L
 |0,_,_,h=>by cases h
 | r+1,c,st,h=>by
   by_cases h1:20000<st+1
   ·rw[zHO h1]at h;cases h
   ·cases hf:zA2 p ch.length (fI ch) c with
    |false=>rw[zGy h1 hf]at h⊢;exact zJ4 hr r _ _ h
    | true=>
      by_cases he:(rec (ch++ [(c:Int)]) (st+1)).2.1=60
      ·rw[zGw h1 hf he]at h⊢;exact zJ4 hr r _ _ h
      ·rw[zGx h1 hf he]at h⊢;exact hr _ _ h
theorem zMJ{p:Pb}:∀(m:Nat) (ch:List Int) (st:Int),(zAE p m ch st).2.1=0→(zAE p m ch st).1.length=ch.length+m
 |0,_,_,_=>rfl
 |m+1,ch,st,h=>zJ4 (L:=ch.length+(m+1)) (fun c st h=>by rw[zMJ m _ st h,List.length_append];show ch.length+1+m=_;omega) _ _ _ h
theorem zOg{p:Pb}(h:(zAy p).2=0):(zAy p).1.length=p.C.length:=by
 unfold zAy at h⊢;by_cases h1:zAr p=0
 ·rw[if_pos h1]at h⊢
  have:=zMJ _ _ _ h
  simpa using this
 ·rw[if_neg h1]at h
  exact absurd h h1
theorem zDL{n:Nat}{s:List Int}:∀{k:Nat},s∈zBz n k→zAP n s=true∧s.length<k
 |0,h=>by cases h
 | k+1,h=>by
   rcases List.mem_append.1 h with h|h
   ·have:=zDL h
    exact⟨this.1,by omega⟩
   ·have:=zSC h
    exact⟨this.1,by omega⟩
theorem zRu{p:Pb}{H:List Hg}{all:List (List Int)}{V:Pl×Int}(h:zJw p H (all.find? (zD2 p H))=V):∃(N:Nat) (stop:Bool) (x:Pl) (e:Int),(stop=true→0<N∧N≤all.length)∧(stop=false→N=all.length)∧(∀i,i<N→zAn N stop i = !zD2 p H (all.getD i []))∧(∀i,i<N→zD2 p H (all.getD i [])=true→zGh p H (all.getD i [])=(x,e))∧V=bif stop then (x,e)else (plZ,60):=by
 rcases zIV (zD2 p H) all with ⟨i0,h1,h2,h3⟩|hno
 ·rw[zMs h1 h2 h3]at h
  refine⟨i0+1,true,V.1,V.2,fun _=>⟨Nat.succ_pos _,h1⟩,(fun h=>by cases h),fun i hi=> ?_,fun i hi hh=> ?_,rfl⟩
  ·unfold zAn
   by_cases e:i=i0
   ·subst e;rw[h2,Nat.beq_refl];rfl
   ·rw[h3 i xD,show Nat.beq (i+1) (i0+1)=false from Bool.eq_false_iff.2 fun h=>e (by have:=Nat.eq_of_beq_eq_true h;omega)];rfl
  ·by_cases e:i=i0
   ·subst e;exact h
   ·rw[h3 i xD]at hh;cases hh
 ·rw[zQJ hno]at h
  refine⟨all.length,false,plZ,60,(fun h=>by cases h),fun _=>rfl,fun i hi=> ?_,fun i hi hh=> ?_,h.symm⟩
  ·rw[hno i hi];rfl
  ·rw[hno i hi]at hh;cases hh
theorem zGX{ids ni:List Nat}(q:Pb)(e:Int):BackA ids ni (.tu [.ag (pbC q),.c (iC e)]) (.tu [.ag (pbC q),.c (iC e)]):=.tu ⟨.ag ⟨.imm _ rfl,.imm _ rfl,.imm _ rfl,.imm _ rfl,.imm _ rfl,trivial⟩,.c (.imm _ rfl),trivial⟩
abbrev zDJ(p:Pb):CV:=.pl 1 5 (lF (pbC p)) 0 0
theorem zOk{l:List Int}{m:Nat}(h:m≤l.length):∀k,k<m-0→∀j,j<1→iF (fI l) (0+k) j=iF (fI (l.take m)) k j:=fun k hk j _=>by
 show iC (l.getD (0+k) 0)=iC ((l.take m).getD k 0);rw[Nat.zero_add,List.getD_eq_getElem?_getD,List.getD_eq_getElem?_getD,List.getElem?_take_of_lt xD]
abbrev anR(m:Nat)(c s:List Int)(k:Nat):List Int:=(s.take k).map fun i=>fI c (m+i.toNat)
abbrev chJ(l:List Int):AB:=zAa l.length (fI l)
theorem zPL{m:Nat}{c s:List Int}{k i:Nat}(hk:k<s.length)(hi:fI s k=(i:Int)):anR m c s (k+1)=anR m c s k++ [fI c (m+i)]:=by
 unfold anR;rw[List.take_add_one,List.getElem?_eq_getElem hk,List.map_append];have e:s[k]=(i:Int):=by
  rw[←hi];show _=s.getD k 0;rw[List.getD_eq_getElem?_getD,List.getElem?_eq_getElem hk]
  rfl
 rw[e]
 rfl
theorem anR_all{m:Nat}{c s:List Int}:anR m c s s.length=s.map fun i=>fI c (m+i.toNat):=by
 unfold anR;rw[List.take_length]
theorem zK9(p:Pb)(hp:p.ok)(H:List Hg)(hH:zDA H):ACalls Try.prog 14 [.ag (pbC p),.c (lsH H)] (.tu [.ag (plC (zCp p H).1),.c (iC (zCp p H).2)]):=by
 have hC:=zDz p hp
 obtain⟨V,hV⟩:∃V,zCp p H=V:=⟨_,rfl⟩
 rw[hV];unfold zCp at hV
 obtain⟨e,he⟩:∃e,zAr p=e:=⟨_,rfl⟩
 rw[he]at hC hV;by_cases h0:e=0;rotate_left
 ·rw [if_neg h0]at hV
  subst hV;refine zK Try.func14 rfl rfl Try.ntmps14 rfl ?_
  repeat (first
   |refine vB [0,2,3] ?_
   | (refine rG 1 ?_
      refine vA ?_;refine xB Try.func30 hC ?_;refine vA ?_;refine aB ?_))
  refine⟨zD 103 [(4,.c (.pt 4 3 0 0)),(5,.c (.pt 5 1 0 0))] [(4,bxP (plC (plZ))),(5,zAN (e))] [4,5],[(4,bxP (plC (plZ))),(5,zAN (e))],Wk.mk [(4,some 4),(5,some 5)] rfl rfl rfl ?_ ?_,rfl,rfl,ARets.two (x:=.ag _) (y:=.c _) (ARes.box zA rfl rfl rfl rfl rfl rfl rfl) (zDb zA rfl rfl rfl rfl rfl rfl)⟩
  ·exact zC
  ·exact⟨HeapOk.box rfl rfl ⟨LeC.nils _ _,LeC.nils _ _,LeC.nils _ _,trivial⟩ rfl,HeapOk.box rfl rfl ⟨LeC.refl _ rfl,trivial⟩ rfl,trivial⟩
 subst h0;rw[if_pos rfl]at hV;by_cases h8:8<H.length
 ·rw [if_pos h8]at hV
  subst hV;have h8':(H.length:Int)>8:=by omega
  refine zK Try.func14 rfl rfl Try.ntmps14 rfl ?_
  repeat (first
   |refine vB [0,2,4,5] ?_
   | (refine rG 1 ?_
      refine vA ?_;refine xB Try.func30 hC ?_;refine vA ?_;refine aB ?_))
  refine⟨zD 103 [(4,.c (.pt 4 3 0 0)),(5,.c (.pt 5 1 0 0))] [(4,bxP (plC (plZ))),(5,zAN (2))] [4,5],[(4,bxP (plC (plZ))),(5,zAN (2))],Wk.mk [(4,some 4),(5,some 5)] rfl rfl rfl ?_ ?_,rfl,rfl,ARets.two (x:=.ag _) (y:=.c _) (ARes.box zA rfl rfl rfl rfl rfl rfl rfl) (zDb zA rfl rfl rfl rfl rfl rfl)⟩
  ·exact zC
  ·exact⟨HeapOk.box rfl rfl ⟨LeC.nils _ _,LeC.nils _ _,LeC.nils _ _,trivial⟩ rfl,HeapOk.box rfl rfl ⟨LeC.refl _ rfl,trivial⟩ rfl,trivial⟩
 rw[if_neg h8]at hV;have h8':¬(H.length:Int)>8:=by omega
 have hA:=zPI H xD;have hW0:=(zE7 p hp H hH [] (Nat.zero_le _)).cv (args':= [.ag (pbC p),.c (lsH H),.c (.p (.slice none 0 0))]) ⟨.ag (zCv _),.c (Cv.refl _),.c Cv.nil,trivial⟩;have hW1:=zE7 p hp H hH (zCI H.length) (by rw[zIk];omega)
 obtain⟨q0,hq0⟩:∃q,zAe p H []=q:=⟨_,rfl⟩
 obtain⟨q1,hq1⟩:∃q,zAe p H (zCI H.length)=q:=⟨_,rfl⟩
 rw[hq0]at hV hW0;rw[hq1]at hV hW1
 obtain⟨q0,e0⟩:=q0
 obtain⟨q1,e1⟩:=q1
 dsimp only at hV hW0 hW1;refine zK Try.func14 rfl rfl Try.ntmps14 rfl ?_
 repeat (first
  |refine vB [0,2,4] ?_
  | (refine rG 1 ?_
     refine vA ?_;refine xB Try.func30 hC ?_;refine vA ?_;refine aB ?_)
  | (refine rG 6 ?_
     refine vA ?_;refine xB Try.func41 hA ?_;refine xE3 ?_;refine aB ?_))
 refine AWp.round (fun k:Nat=>zD 103 [(2,.c (zDJ p)),(3,.c (pl1 (lsH H))),(4,.c (.pt 4 3 0 0)),(5,.c (.pt 5 1 0 0)),(29,.c (.ls 2 1 (sF [.p (.slice none 0 0),lsI (zCI H.length)] 1))),(30,.c (iC 2)),(31,.c (iC (k:Nat)))] [(4,bxP zBw),(5,zAN 0)] [4,5]) (fun k=>k≤2∧(0<k→e0=0)∧(1<k→e1=0)) (fun k=>2-k) 0 ⟨Nat.zero_le _,fun h=>absurd h (by decide),fun h=>absurd h (by decide)⟩ ?_ (fun k hk=> ?_)
 ·refine Wk.mk [(4,some 4),(5,some 5)] rfl rfl rfl ?_ ?_
  ·repeat (first|exact trivial|refine⟨⟨_,rfl,by first|exact LeA.c (zBq rfl rfl rfl rfl)|exact leT⟩,?_⟩)
  ·exact⟨hSm,hSm,trivial⟩
 obtain⟨hk,hk0,hk1⟩:=hk
 obtain rfl|rfl|rfl:k=0∨k=1∨k=2:=by omega
 ·by_cases h:e0=0
  ·subst h
   repeat (first
    |refine vB [7,10,12] ?_
    | (refine rG 8 ?_
       first|refine zG (aP (k:=0) zA) ?_|refine zJ (zH (k:=0) zA) ?_
       refine xE2 ?_;refine aB ?_)
    | (refine rG 9 ?_
       refine xE3 ?_;refine xB Try.func11 hW0 ?_;refine xE6 ?_;refine aB ?_))
   refine⟨1,⟨by omega,fun _=>rfl,fun h=>absurd h (by decide)⟩,Wk.mk [(4,some 4),(5,some 5)] rfl rfl rfl ?_ ?_,by omega⟩
   ·exact zC
   ·exact⟨hSm,hSm,trivial⟩
  ·rw [if_neg h]at hV
   subst hV
   repeat (first
    |refine vB [7,10,11] ?_
    | (refine rG 8 ?_
       first|refine zG (aP (k:=0) zA) ?_|refine zJ (zH (k:=0) zA) ?_
       refine xE2 ?_;refine aB ?_)
    | (refine rG 9 ?_
       refine xE3 ?_;refine xB Try.func11 hW0 ?_;refine xE6 ?_;refine aB ?_))
   refine⟨zD 103 [(4,.c (.pt 4 3 0 0)),(5,.c (.pt 5 1 0 0))] [(4,bxP (plC (plZ))),(5,zAN (e0))] [4,5],[(4,bxP (plC (plZ))),(5,zAN (e0))],Wk.mk [(4,some 4),(5,some 5)] rfl rfl rfl ?_ ?_,rfl,rfl,ARets.two (x:=.ag _) (y:=.c _) (ARes.box zA rfl rfl rfl rfl rfl rfl rfl) (zDb zA rfl rfl rfl rfl rfl rfl)⟩
   ·exact zC
   ·exact⟨HeapOk.box rfl rfl ⟨LeC.nils _ _,LeC.nils _ _,LeC.nils _ _,trivial⟩ rfl,HeapOk.box rfl rfl ⟨LeC.refl _ rfl,trivial⟩ rfl,trivial⟩
 ·obtain rfl:=hk0 (by decide)
  rw[if_pos rfl]at hV;by_cases h:e1=0
  ·subst h
   repeat (first
    |refine vB [7,10,12] ?_
    | (refine rG 8 ?_
       first|refine zG (aP (k:=1) zA) ?_|refine zJ (zH (k:=1) zA) ?_
       refine xE2 ?_;refine aB ?_)
    | (refine rG 9 ?_
       refine xE3 ?_;refine xB Try.func11 hW1 ?_;refine xE6 ?_;refine aB ?_))
   refine⟨2,⟨by omega,fun _=>rfl,fun _=>rfl⟩,Wk.mk [(4,some 4),(5,some 5)] rfl rfl rfl ?_ ?_,by omega⟩
   ·exact zC
   ·exact⟨hSm,hSm,trivial⟩
  ·rw [if_neg h]at hV
   subst hV
   repeat (first
    |refine vB [7,10,11] ?_
    | (refine rG 8 ?_
       first|refine zG (aP (k:=1) zA) ?_|refine zJ (zH (k:=1) zA) ?_
       refine xE2 ?_;refine aB ?_)
    | (refine rG 9 ?_
       refine xE3 ?_;refine xB Try.func11 hW1 ?_;refine xE6 ?_;refine aB ?_))
   refine⟨zD 103 [(4,.c (.pt 4 3 0 0)),(5,.c (.pt 5 1 0 0))] [(4,bxP (plC (plZ))),(5,zAN (e1))] [4,5],[(4,bxP (plC (plZ))),(5,zAN (e1))],Wk.mk [(4,some 4),(5,some 5)] rfl rfl rfl ?_ ?_,rfl,rfl,ARets.two (x:=.ag _) (y:=.c _) (ARes.box zA rfl rfl rfl rfl rfl rfl rfl) (zDb zA rfl rfl rfl rfl rfl rfl)⟩
   ·exact zC
   ·exact⟨HeapOk.box rfl rfl ⟨LeC.nils _ _,LeC.nils _ _,LeC.nils _ _,trivial⟩ rfl,HeapOk.box rfl rfl ⟨LeC.refl _ rfl,trivial⟩ rfl,trivial⟩
 obtain rfl:=hk0 (by decide);obtain rfl:=hk1 (by decide);rw[if_pos rfl,if_pos rfl]at hV;have hS:=zSz (H.length:Nat)
 repeat (first
  |refine vB [7,13] ?_
  | (refine rG 14 ?_
     refine xE2 ?_;refine xB Try.func42 hS ?_;refine aB ?_))
 obtain⟨all,hal⟩:∃all,zBz H.length (H.length+1)=all:=⟨_,rfl⟩
 rw[hal]at hV
 obtain⟨N,stop,x,e,hN1,hN2,hgo,hpl,hVe⟩:=zRu hV
 clear hV;have hmem:∀i,i<N→zAP H.length (all.getD i [])=true∧(all.getD i []).length≤H.length:=fun i hi=>by
  have hi':i<all.length:=by
   cases hs:stop with
   |true=>have:=(hN1 hs).2;omega
   |false=>rw[←hN2 hs];exact hi
  have:=zDL (n:=H.length) (k:=H.length+1) (s:=all.getD i []) (by rw[hal,List.getD_eq_getElem?_getD,List.getElem?_eq_getElem hi'];exact List.getElem_mem hi')
  exact⟨this.1,by omega⟩
 have hc3:zEJ (plC x):=fun j hj=>by match j,hj with|0,_|1,_|2,_=>rfl
 refine zO0 (N:=N) (stop:=stop) (eS:=.exit 2) (A:=zBa all N stop (plC x) e) (M:=all.length) (cs:= [.c (pl1 (iC (H.length:Nat)))]) (ts:= [(2,.c (zDJ p)),(3,.c (pl1 (lsH H))),(4,.c (.pt 1000 3 0 0)),(5,.c (.pt 1001 1 0 0))]) [4,5] [] [] (zA1 (plC x) e stop) [] rfl (enters_of Try.func71 xC rfl) (fun i hi f k D e=>by
  obtain rfl:i=0:=xD
  cases e) (by exact⟨.c (.b (.imm _ rfl)),trivial⟩) (zSy all H.length N stop (plC x) e hc3 xD hal.symm (fun h=>(hN1 h).1) hN2) (fun _ h=>h) hN1 hN2 ⟨⟨_,rfl,(fun h=>by cases h),fun k hk j hj=> ?_⟩,⟨_,rfl,(fun h=>by cases h),fun k hk j hj=> ?_⟩,trivial⟩ trivial rfl (fun i _=>⟨rfl,rfl,by show 0≤100;omega⟩) rfl rfl ?_ rfl (fun _ _=>rfl) (.inr ⟨_,rfl⟩) (fun i hi=> ?_) ?_ trivial ?_
 ·obtain rfl:k=0:=Nat.lt_one_iff.mp hk
  match j,hj with
  |0,_|1,_|2,_=>exact .b (.imm _ rfl)
 ·obtain rfl:k=0:=Nat.lt_one_iff.mp hk
  obtain rfl:j=0:=Nat.lt_one_iff.mp hj;exact .b (.imm _ rfl)
 ·exact⟨⟨_,rfl,.c (.b (.imm _ rfl))⟩,⟨_,rfl,.c (.b (.imm _ rfl))⟩,⟨_,rfl,.c (.b (.pt 4 0 3 0 0 rfl))⟩,⟨_,rfl,.c (.b (.pt 5 1 1 0 0 rfl))⟩,trivial⟩
 ·obtain ⟨hs1,hs2⟩:=hmem i hi
  have hgi:=hgo i hi;have hpi:=hpl i hi;have hE:(zBa all N stop (plC x) e).hE (i+1)=zA1 (plC x) e (!zAn N stop i):=by show zA1 _ _ (stop && Nat.beq (i+1) N)=_;unfold zAn;rw[Bool.not_not]
  have hla:(zBa all N stop (plC x) e).la i=laR (all.getD i []):=rfl;have hys:(zBa all N stop (plC x) e).ys i= [laY (all.getD i [])]:=rfl;rw[hE,hla,hys,hgi];clear hE hla hys hgi hpl hgo hmem
  obtain⟨s,hs⟩:∃s,all.getD i []=s:=⟨_,rfl⟩
  rw[hs]at hs1 hs2 hpi⊢;have hSl:=fun h:(zAe p H s).2=0=>zLc (zAe p H s).1 (by rw[(zGC h).1];exact zFS s hp hH he)
  have hql:=fun h:(zAe p H s).2=0=>show(zAe p H s).1.C.length=p.C.length+H.length by rw[(zGC h).1];show(p.C++anC H s H.length).length=_;rw[List.length_append,zE8]
  have hWp:=zE7 p hp H hH s xD;have hWg:=zPC p hp H hH s xD;have hhit:zD2 p H s=(decide ((zAe p H s).2=0) && (decide ((zAy (zAe p H s).1).2=0)||decide ((zAy (zAe p H s).1).2=61))):=rfl;have hplan:zGh p H s=if (zAy (zAe p H s).1).2=0 then (zCA p (zAy (zAe p H s).1).1 s,0)else (plZ,61):=rfl
  have hfit:=zDf hp he;have lC:=hfit.c;generalize zAe p H s=w at *
  obtain⟨q,we⟩:=w
  dsimp only at hSl hql hWp hWg hhit hplan;have hsl:= @zOg q;generalize zAy q=o at *
  obtain⟨c,f⟩:=o
  dsimp only at hSl hsl hhit hplan;rw[hhit,hplan]at hpi;rw[hhit];clear hhit hplan hs
  obtain⟨b,hb⟩:∃b,(decide (we=0) && (decide (f=0)||decide (f=61)))=b:=⟨_,rfl⟩
  rw[hb]at hpi⊢
  cases s with
  | nil=>
    have hWp:=hWp.cv (args':= [.ag (pbC p),.c (lsH H),.c (lsI [])]) ⟨.ag (zCv _),.c (Cv.refl _),.c (Cv.refl _),trivial⟩;refine AWp.weak (S':=
     mkG (fun _=>True) 0 false 103 2 [(2,.c (zDJ p)),(3,.c (pl1 (lsH H))),(4,.c (.pt 1000 3 0 0)),(5,.c (.pt 1001 1 0 0)),(50,.c (lsI []))] [(1000,bxP zBw),(1001,zAN 60)] []
     ) (Wk.mkG [] rfl rfl rfl rfl rfl ?_ ?_ rfl rfl (fun _ _=>trivial)) ?_
    ·repeat (first|exact trivial|refine⟨⟨_,rfl,by first|exact LeA.c (LeC.ptB _ _ _ _ rfl)|exact LeA.c (LeC.owB _ rfl)|exact leT⟩,?_⟩)
    ·exact zA4 zBg rfl rfl trivial
    refine vB [15] ?_
    refine⟨rfl,?_⟩
    by_cases hw0:we=0;rotate_left
    ·obtain rfl:b=false:=by rw[←hb,decide_eq_false hw0];rfl
     repeat (first
      |refine vB [17] ?_
      | (refine rG 16 ?_
         refine xE3 ?_;refine xB Try.func11 hWp ?_;refine xE6 ?_;refine aB ?_))
     refine⟨rfl,mkG (fun _=>True) 0 true 103 2 [] (zAt [] (zA1 (plC x) e false++laR [])) [],[],Wk.mkG [] rfl rfl rfl rfl rfl trivial ?_ rfl rfl (fun _ _=>trivial),rfl,rfl⟩
     exact zA4 zBg rfl rfl trivial
    replace hSl:=hSl hw0
    replace hql:=hql hw0
    subst hw0;by_cases hf0:f=0
    ·obtain rfl:b=true:=by rw[←hb,decide_eq_true hf0];rfl
     rw[if_pos hf0]at hpi
     replace hsl:=hsl hf0
     subst hf0
     obtain⟨rfl,rfl⟩:zCA p c []=x∧(0:Int)=e:=Prod.mk.inj (hpi rfl)
     have hC0:=zHZ 0 (iF (fI [])) (fun _ _ _ _=>rfl) xD;have hC1:=zHZ (p.C.length-0) (fun k j=>iF (fI c) (0+k) j) (fun _ _ _ _=>rfl) xD
     repeat (first
      |refine vB [17,19,20,22] ?_
      | (refine rG 16 ?_
         refine xE3 ?_;refine xB Try.func11 hWp ?_;refine xE6 ?_;refine aB ?_)
      | (refine rG 18 ?_
         refine vA ?_;refine xB Try.func18 hSl ?_;refine xE5 ?_;refine aB ?_)
      |(refine AWp.draw (id:=21) zL ?_;refine vA ?_;(first|refine xB Try.func43 hC0 ?_|refine xB Try.func43 hC1 ?_);refine xE4 ?_;refine AList.cut (l:=0) (h:=p.C.length) zA rfl rfl rfl rfl rfl rfl rfl rfl ⟨_,_,rfl,by first|rfl|omega⟩ xD xD ?_;(first|refine xB Try.func43 hC0 ?_|refine xB Try.func43 hC1 ?_);refine xE4 ?_;refine aB ⟨by kernel_rfl,?_⟩))
     refine AWp.round (fun _:Nat=>
      mkG (fun _=>True) 0 true 103 2 [(2,.c (zDJ p)),(3,.c (pl1 (lsH H))),(4,.c (.pt 1000 3 0 0)),(5,.c (.pt 1001 1 0 0)),(79,.c (iC 0)),(80,.c (iC 0))] [(1000,bxP [lsI [],.p (.slice none 0 0),lsI (c.take p.C.length)]),(1001,zAN 60)] []
      ) (fun _=>True) (fun _=>0) 0 trivial ?_ (fun _ _=> ?_)
     ·refine Wk.mkG [] rfl rfl rfl rfl rfl ?_ ?_ rfl rfl (fun _ _=>trivial)
      ·repeat (first|exact trivial|refine⟨⟨_,rfl,by first|exact LeA.c (LeC.ptB _ _ _ _ rfl)|exact leT⟩,?_⟩)
      ·exact⟨zQ rfl rfl ⟨LeC.refl _ rfl,LeC.refl _ rfl,zDR (by rw[List.length_take];omega) (zOk xD),trivial⟩ rfl,zQ rfl rfl ⟨LeC.refl _ rfl,trivial⟩ rfl,trivial⟩
     refine vB [23,27] ?_
     refine⟨rfl,mkG (fun _=>True) 0 true 103 2 [] (zAt [] (zA1 (plC (zCA p c [])) 0 true++laR [])) [],[],Wk.mkG [] rfl rfl rfl rfl rfl trivial ?_ rfl rfl (fun _ _=>trivial),rfl,rfl⟩
     exact⟨zQ rfl rfl ⟨LeC.refl _ rfl,LeC.nils _ _,LeC.refl _ rfl,trivial⟩ rfl,zQ rfl rfl ⟨LeC.refl _ rfl,trivial⟩ rfl,trivial⟩
    by_cases hf1:f=61
    ·obtain rfl:b=true:=by rw[←hb,decide_eq_true hf1];simp
     rw[if_neg hf0]at hpi
     obtain⟨rfl,rfl⟩:plZ=x∧(61:Int)=e:=Prod.mk.inj (hpi rfl)
     subst hf1
     repeat (first
      |refine vB [17,19,20,28,29] ?_
      | (refine rG 16 ?_
         refine xE3 ?_;refine xB Try.func11 hWp ?_;refine xE6 ?_;refine aB ?_)
      | (refine rG 18 ?_
         refine vA ?_;refine xB Try.func18 hSl ?_;refine xE5 ?_;refine aB ?_))
     refine⟨rfl,mkG (fun _=>True) 0 true 103 2 [] (zAt [] (zA1 (plC plZ) 61 true++laR [])) [],[],Wk.mkG [] rfl rfl rfl rfl rfl trivial ?_ rfl rfl (fun _ _=>trivial),rfl,rfl⟩
     exact⟨zQ rfl rfl ⟨LeC.nils _ _,LeC.nils _ _,LeC.nils _ _,trivial⟩ rfl,zQ rfl rfl ⟨LeC.refl _ rfl,trivial⟩ rfl,trivial⟩
    ·obtain rfl:b=false:=by rw[←hb,decide_eq_false hf0,decide_eq_false hf1];simp
     repeat (first
      |refine vB [17,19,20,28] ?_
      | (refine rG 16 ?_
         refine xE3 ?_;refine xB Try.func11 hWp ?_;refine xE6 ?_;refine aB ?_)
      | (refine rG 18 ?_
         refine vA ?_;refine xB Try.func18 hSl ?_;refine xE5 ?_;refine aB ?_))
     refine⟨rfl,mkG (fun _=>True) 0 true 103 2 [] (zAt [] (zA1 (plC x) e false++laR [])) [],[],Wk.mkG [] rfl rfl rfl rfl rfl trivial ?_ rfl rfl (fun _ _=>trivial),rfl,rfl⟩
     exact zA4 zBg rfl rfl trivial
  | cons y l=>
    obtain⟨s,hs⟩:∃s,y::l=s:=⟨_,rfl⟩
    have hla:laR (y::l)= [zAa s.length (fI s)]:=by rw[←hs];rfl
    have hly:laY (y::l)=.c (.ow 1002):=rfl;rw[hla,hly];have hspos:0<s.length:=by rw[←hs];exact Nat.succ_pos _
    rw[hs]at hs1 hs2 hpi hWp hWg;clear hs hla hly;refine AWp.weak (S':=
     mkG (fun _=>True) 0 false 103 3 [(2,.c (zDJ p)),(3,.c (pl1 (lsH H))),(4,.c (.pt 1000 3 0 0)),(5,.c (.pt 1001 1 0 0)),(50,.c (.ow 1002))] [(1000,bxP zBw),(1001,zAN 60),(1002,zAa s.length (fI s))] []
     ) (Wk.mkG [] rfl rfl rfl rfl rfl ?_ ?_ rfl rfl (fun _ _=>trivial)) ?_
    ·repeat (first|exact trivial|refine⟨⟨_,rfl,by first|exact LeA.c (LeC.ptB _ _ _ _ rfl)|exact LeA.c (LeC.owB _ rfl)|exact leT⟩,?_⟩)
    ·exact zA4 zBg rfl rfl ⟨lrw,trivial⟩
    refine vB [15] ?_
    refine⟨rfl,?_⟩
    by_cases hw0:we=0;rotate_left
    ·obtain rfl:b=false:=by rw[←hb,decide_eq_false hw0];rfl
     repeat (first
      |refine vB [17] ?_
      | (refine rG 16 ?_
         refine xE3 ?_;refine AList.callG [1002] [] [zAa s.length (fI s)] [zAa s.length (fI s)] [] [zAa s.length (fI s)] [] rfl rfl FnV.func rfl Try.func11 rfl xC (⟨⟨_,rfl,fun _=>hspos,fun _ _ _ _=>.inl ⟨rfl,rfl⟩⟩,trivial⟩) rfl (zGX _ _) (⟨⟨_,rfl,fun _ _ _ _=>.imm _ rfl⟩,trivial⟩) (trivial) (hWg) ?_;refine xE6 ?_;refine aB ?_))
     refine⟨rfl,mkG (fun _=>True) 0 true 103 3 [] (zAt [] (zA1 (plC x) e false++ [zAa s.length (fI s)])) [],[],Wk.mkG [] rfl rfl rfl rfl rfl trivial ?_ rfl rfl (fun _ _=>trivial),rfl,rfl⟩
     exact zA4 zBg rfl rfl ⟨lrw,trivial⟩
    replace hSl:=hSl hw0
    replace hql:=hql hw0
    subst hw0;by_cases hf0:f=0
    ·obtain rfl:b=true:=by rw[←hb,decide_eq_true hf0];rfl
     rw[if_pos hf0]at hpi
     replace hsl:=hsl hf0
     subst hf0
     obtain⟨rfl,rfl⟩:zCA p c s=x∧(0:Int)=e:=Prod.mk.inj (hpi rfl)
     have hC0:=zO6 s.length (fI s) hspos xD;have hC1:=zHZ (p.C.length-0) (fun k j=>iF (fI c) (0+k) j) (fun _ _ _ _=>rfl) xD
     repeat (first
      |refine vB [17,19,20,22] ?_
      | (refine rG 16 ?_
         refine xE3 ?_;refine AList.callG [1002] [] [zAa s.length (fI s)] [zAa s.length (fI s)] [] [zAa s.length (fI s)] [] rfl rfl FnV.func rfl Try.func11 rfl xC (⟨⟨_,rfl,fun _=>hspos,fun _ _ _ _=>.inl ⟨rfl,rfl⟩⟩,trivial⟩) rfl (zGX _ _) (⟨⟨_,rfl,fun _ _ _ _=>.imm _ rfl⟩,trivial⟩) (trivial) (hWg) ?_;refine xE6 ?_;refine aB ?_)
      | (refine rG 18 ?_
         refine vA ?_;refine xB Try.func18 hSl ?_;refine xE5 ?_;refine aB ?_)
      |(refine AWp.draw (id:=21) zL ?_;refine vA ?_;(first|refine zKm [1002] rfl rfl rfl rfl Try.func43 rfl xC (hC0) (⟨.inr ⟨1002,s.length,1,_,_,iF (fI s),rfl,rfl,by simp,rfl,fun _ _=>zY ⟨rfl,rfl⟩⟩,trivial⟩) (fun _ _ _ _=>rfl) ?_|refine xB Try.func43 hC1 ?_);refine xE4 ?_;refine AList.cut (l:=0) (h:=p.C.length) zA rfl rfl rfl rfl rfl rfl rfl rfl ⟨_,_,rfl,by first|rfl|omega⟩ xD xD ?_;(first|refine zKm [1002] rfl rfl rfl rfl Try.func43 rfl xC (hC0) (⟨.inr ⟨1002,s.length,1,_,_,iF (fI s),rfl,rfl,by simp,rfl,fun _ _=>zY ⟨rfl,rfl⟩⟩,trivial⟩) (fun _ _ _ _=>rfl) ?_|refine xB Try.func43 hC1 ?_);refine xE4 ?_;refine aB ⟨by kernel_rfl,?_⟩))
     refine AWp.round (fun k:Nat=>
      mkG (fun _=>True) 0 true 103 3 [(2,.c (zDJ p)),(3,.c (pl1 (lsH H))),(4,.c (.pt 1000 3 0 0)),(5,.c (.pt 1001 1 0 0)),(14,.c (lsI c)),(78,.c (.ow 1002)),(79,.c (iC (s.length:Nat))),(80,.c (iC (k:Nat)))] [(21,chJ (anR p.C.length c s k)),(1000,bxP [lsI s,.ow 21,lsI (c.take p.C.length)]),(1001,zAN 60),(1002,zAa s.length (fI s))] [21]
      ) (fun k=>k≤s.length) (fun k=>s.length-k) 0 (Nat.zero_le _) ?_ (fun k hk=> ?_)
     ·refine Wk.mkG [(21,none)] rfl rfl rfl rfl rfl ?_ ?_ rfl rfl (fun _ _=>trivial)
      ·repeat (first|exact trivial|refine⟨⟨_,rfl,by first|exact LeA.c (LeC.ptB _ _ _ _ rfl)|exact LeA.c (LeC.owB _ rfl)|exact leT⟩,?_⟩)
      ·exact⟨HeapOk.nil rfl rfl,zQ rfl rfl ⟨zAp rfl rfl rfl (fun _ _ _ _=>⟨rfl,rfl⟩),LeC.nil _ rfl,zDR (by rw[List.length_take];omega) (zOk xD),trivial⟩ rfl,zQ rfl rfl ⟨LeC.refl _ rfl,trivial⟩ rfl,lrw,trivial⟩
     by_cases hks:k<s.length
     ·have hks':(k:Int)<s.length:=by omega
      obtain⟨hv0,hv1,-⟩:=nmOk_iff.1 hs1 k hks
      obtain⟨i,hi⟩:=Int.eq_ofNat_of_zero_le hv0
      have hcy:iF (fI s) k 0=iC (i:Nat):=by show iC (fI s k)=_;rw[hi]
      have hap:=zEz (anR p.C.length c s k) (fI c (p.C.length+i));have hal:(anR p.C.length c s k).length=k:=by unfold anR;rw[List.length_map,List.length_take];omega
      have h21:((21,chJ (anR p.C.length c s k)):Nat×AB).snd.n=k:=hal;have hcv:iF (fI c) (p.C.length+i) 0=iC (fI c (p.C.length+i)):=rfl
      repeat (first
       |refine vB [23,26] ?_
       | (refine rG 24 ?_
          first|refine zG (aP (k:=k) zA) ?_|refine zJ (zH (k:=k) zA) ?_
          first|refine zAk zA (hcy) rfl rfl rfl rfl rfl oM ?_|refine zAH zA rfl rfl rfl rfl rfl rfl rfl oM oM (hcy) ?_
          refine vA ?_;refine aB ?_)
       |(refine AWp.draw (id:=25) zL ?_;refine xE8 ?_;(first|refine zG (aP (k:=p.C.length+i) zA) ?_|refine zJ (zH (k:=p.C.length+i) zA) ?_);(first|refine zAk zA (hcv) rfl rfl rfl rfl rfl oM ?_|refine zAH zA rfl rfl rfl rfl rfl rfl rfl oM oM (hcv) ?_);refine vA ?_;refine xA ?_;refine xE2 ?_;refine aB ⟨by kernel_rfl,?_⟩))
      refine⟨k+1,hks,?_,by omega⟩
      rw[zPL hks hi];refine Wk.mkG [(21,some 95)] rfl rfl rfl rfl rfl ?_ ?_ rfl rfl (fun _ _=>trivial)
      ·repeat (first|exact trivial|refine⟨⟨_,rfl,by first|exact LeA.c (LeC.ptB _ _ _ _ rfl)|exact LeA.c (LeC.owB _ rfl)|exact leT⟩,?_⟩)
      ·exact⟨HeapOk.row rfl rfl List.length_append hap,zQ rfl rfl ⟨LeC.refl _ rfl,LeC.ow _ _ rfl,LeC.refl _ rfl,trivial⟩ rfl,zQ rfl rfl ⟨LeC.refl _ rfl,trivial⟩ rfl,lrw,trivial⟩
     have hks':¬(k:Int)<s.length:=by omega
     obtain rfl:k=s.length:=by omega
     refine vB [23,27] ?_
     refine⟨rfl,mkG (fun _=>True) 0 true 103 3 [] (zAt [] (zA1 (plC (zCA p c s)) 0 true++ [zAa s.length (fI s)])) [],[],Wk.mkG [] rfl rfl rfl rfl rfl trivial ?_ rfl rfl (fun _ _=>trivial),rfl,rfl⟩
     exact⟨zQ rfl rfl ⟨LeC.refl _ rfl,zAp rfl rfl (congrArg List.length anR_all.symm) (fun i _ j _=>⟨congrArg (fun l=>iF (fI l) i j) anR_all,rfl⟩),LeC.refl _ rfl,trivial⟩ rfl,zQ rfl rfl ⟨LeC.refl _ rfl,trivial⟩ rfl,lrw,trivial⟩
    by_cases hf1:f=61
    ·obtain rfl:b=true:=by rw[←hb,decide_eq_true hf1];simp
     rw[if_neg hf0]at hpi
     obtain⟨rfl,rfl⟩:plZ=x∧(61:Int)=e:=Prod.mk.inj (hpi rfl)
     subst hf1
     repeat (first
      |refine vB [17,19,20,28,29] ?_
      | (refine rG 16 ?_
         refine xE3 ?_;refine AList.callG [1002] [] [zAa s.length (fI s)] [zAa s.length (fI s)] [] [zAa s.length (fI s)] [] rfl rfl FnV.func rfl Try.func11 rfl xC (⟨⟨_,rfl,fun _=>hspos,fun _ _ _ _=>.inl ⟨rfl,rfl⟩⟩,trivial⟩) rfl (zGX _ _) (⟨⟨_,rfl,fun _ _ _ _=>.imm _ rfl⟩,trivial⟩) (trivial) (hWg) ?_;refine xE6 ?_;refine aB ?_)
      | (refine rG 18 ?_
         refine vA ?_;refine xB Try.func18 hSl ?_;refine xE5 ?_;refine aB ?_))
     refine⟨rfl,mkG (fun _=>True) 0 true 103 3 [] (zAt [] (zA1 (plC plZ) 61 true++ [zAa s.length (fI s)])) [],[],Wk.mkG [] rfl rfl rfl rfl rfl trivial ?_ rfl rfl (fun _ _=>trivial),rfl,rfl⟩
     exact⟨zQ rfl rfl ⟨LeC.nils _ _,LeC.nils _ _,LeC.nils _ _,trivial⟩ rfl,zQ rfl rfl ⟨LeC.refl _ rfl,trivial⟩ rfl,lrw,trivial⟩
    ·obtain rfl:b=false:=by rw[←hb,decide_eq_false hf0,decide_eq_false hf1];simp
     repeat (first
      |refine vB [17,19,20,28] ?_
      | (refine rG 16 ?_
         refine xE3 ?_;refine AList.callG [1002] [] [zAa s.length (fI s)] [zAa s.length (fI s)] [] [zAa s.length (fI s)] [] rfl rfl FnV.func rfl Try.func11 rfl xC (⟨⟨_,rfl,fun _=>hspos,fun _ _ _ _=>.inl ⟨rfl,rfl⟩⟩,trivial⟩) rfl (zGX _ _) (⟨⟨_,rfl,fun _ _ _ _=>.imm _ rfl⟩,trivial⟩) (trivial) (hWg) ?_;refine xE6 ?_;refine aB ?_)
      | (refine rG 18 ?_
         refine vA ?_;refine xB Try.func18 hSl ?_;refine xE5 ?_;refine aB ?_))
     refine⟨rfl,mkG (fun _=>True) 0 true 103 3 [] (zAt [] (zA1 (plC x) e false++ [zAa s.length (fI s)])) [],[],Wk.mkG [] rfl rfl rfl rfl rfl trivial ?_ rfl rfl (fun _ _=>trivial),rfl,rfl⟩
     exact zA4 zBg rfl rfl ⟨lrw,trivial⟩
 ·show zBd _ _ (zA1 (plC x) e (stop && Nat.beq N N)) _
  rw[Nat.beq_refl,Bool.and_true];exact zFZ (l:= []) (m:= []) hc3 trivial
 ·cases stop with
  | true=>
    obtain rfl:V=(x,e):=hVe;refine vB [30] ?_
    refine⟨zD 103 [(4,.c (.pt 4 3 0 0)),(5,.c (.pt 5 1 0 0))] [(4,bxP (plC (x))),(5,zAN (e))] [4,5],[(4,bxP (plC (x))),(5,zAN (e))],Wk.mk [(4,some 4),(5,some 5)] rfl rfl rfl ?_ ?_,rfl,rfl,ARets.two (x:=.ag _) (y:=.c _) (ARes.box zA rfl rfl rfl rfl rfl rfl rfl) (zDb zA rfl rfl rfl rfl rfl rfl)⟩
    ·exact zC
    ·exact⟨HeapOk.box rfl rfl ⟨LeC.refl _ rfl,LeC.refl _ rfl,LeC.refl _ rfl,trivial⟩ rfl,HeapOk.box rfl rfl ⟨LeC.refl _ rfl,trivial⟩ rfl,trivial⟩
  | false=>
    obtain rfl:V=(plZ,60):=hVe;refine vB [30] ?_
    refine⟨zD 103 [(4,.c (.pt 4 3 0 0)),(5,.c (.pt 5 1 0 0))] [(4,bxP (plC (plZ))),(5,zAN (60))] [4,5],[(4,bxP (plC (plZ))),(5,zAN (60))],Wk.mk [(4,some 4),(5,some 5)] rfl rfl rfl ?_ ?_,rfl,rfl,ARets.two (x:=.ag _) (y:=.c _) (ARes.box zA rfl rfl rfl rfl rfl rfl rfl) (zDb zA rfl rfl rfl rfl rfl rfl)⟩
    ·exact zC
    ·exact⟨HeapOk.box rfl rfl ⟨LeC.nils _ _,LeC.nils _ _,LeC.nils _ _,trivial⟩ rfl,HeapOk.box rfl rfl ⟨LeC.refl _ rfl,trivial⟩ rfl,trivial⟩
end Go.Proofs.Ytbffmfeldkjkcaa
end
