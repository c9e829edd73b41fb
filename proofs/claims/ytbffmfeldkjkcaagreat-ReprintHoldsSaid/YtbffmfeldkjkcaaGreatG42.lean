/- Parts of the proof: A30n. -/
import Derived.Test.YtbffmfeldkjkcaaGreatG41
set_option linter.unusedSimpArgs false
set_option linter.unusedVariables false
set_option maxHeartbeats 0
set_option maxRecDepth 100000
section
namespace Go.Proofs.YtbffmfeldkjkcaaGreat
open Go.RowKit Go.Flow Go.AV Go.Plain
def zCt(p:Pb)(H:List Hg)(s:List Int):Bool:=decide ((zAd p H s).2=0) && (decide ((zAZ (zAd p H s).1).2=0)||decide ((zAZ (zAd p H s).1).2=61))
def zDB(p:Pb)(c s:List Int):Pl:=⟨s,s.map fun i=>fI c (p.C.length+i.toNat),c.take p.C.length⟩
def zDC(p:Pb)(H:List Hg)(s:List Int):Pl×Int:=if (zAZ (zAd p H s).1).2=0 then (zDB p (zAZ (zAd p H s).1).1 s,0)else (plZ,61)
def zM8(p:Pb)(H:List Hg):Option (List Int)→Pl×Int
 |some s=>zDC p H s
 |none=>(plZ,60)
def zBx(p:Pb)(H:List Hg):Pl×Int:=
 if zAr p=0 then
  if 8<H.length then (plZ,2)else
  if (zAd p H []).2=0 then
   if (zAd p H (zBr H.length)).2=0 then zM8 p H ((zBA H.length (H.length+1)).find? (zCt p H))else (plZ,(zAd p H (zBr H.length)).2)
  else (plZ,(zAd p H []).2)
 else (plZ,zAr p)
theorem zFa{p:Pb}{H:List Hg}{s:List Int}(h:(zAd p H s).2=0):zAd p H s=(anP p H s,0)∧zAr p=0∧zA9 H.length s=true∧zAr (anP p H s)=0:=by
 unfold zAd at h⊢;by_cases h1:zAr p=0
 ·rw[if_pos h1]at h⊢
  by_cases h2:zA9 H.length s=true
  ·rw[if_pos h2]at h⊢
   by_cases h3:zAr (anP p H s)=0
   ·rw[if_pos h3]
    exact⟨rfl,h1,h2,h3⟩
   ·rw[if_neg h3]at h
    exact absurd h h3
  ·rw[if_neg h2]at h
   exact absurd h (by decide)
 ·rw[if_neg h1]at h
  exact absurd h h1
theorem zJR{rec:List Int→Int→FR}{p:Pb}{ch:List Int}{L:Nat}(hr:∀c st,(rec (ch++ [c]) st).2.1=0→(rec (ch++ [c]) st).1.length=L):∀(r c:Nat) (st:Int),(zBK rec p ch r c st).2.1=0→(zBK rec p ch r c st).1.length=L
 |0,_,_,h=>by cases h
 | r+1,c,st,h=>by
   by_cases h1:20000<st+1
   ·rw[zGi h1]at h;cases h
   ·cases hf:zAW p ch.length (fI ch) c with
    |false=>rw[zGj h1 hf]at h⊢;exact zJR hr r _ _ h
    | true=>
      by_cases he:(rec (ch++ [(c:Int)]) (st+1)).2.1=60
      ·rw[zGg h1 hf he]at h⊢;exact zJR hr r _ _ h
      ·rw[zGh h1 hf he]at h⊢;exact hr _ _ h
theorem zMk{p:Pb}:∀(m:Nat) (ch:List Int) (st:Int),(zAI p m ch st).2.1=0→(zAI p m ch st).1.length=ch.length+m
 |0,_,_,_=>rfl
 |m+1,ch,st,h=>zJR (L:=ch.length+(m+1)) (fun c st h=>by rw[zMk m _ st h,List.length_append];show ch.length+1+m=_;omega) _ _ _ h
theorem zNT{p:Pb}(h:(zAZ p).2=0):(zAZ p).1.length=p.C.length:=by
 unfold zAZ at h⊢;by_cases h1:zAr p=0
 ·rw[if_pos h1]at h⊢
  have:=zMk _ _ _ h
  simpa using this
 ·rw[if_neg h1]at h
  exact absurd h h1
theorem zJO{n:Nat}{s:List Int}:∀{k:Nat},s∈zBA n k→zA9 n s=true∧s.length<k
 |0,h=>by cases h
 | k+1,h=>by
   rcases List.mem_append.1 h with h|h
   ·have:=zJO h
    exact⟨this.1,by omega⟩
   ·have:=zNO h
    exact⟨this.1,by omega⟩
theorem zQ4{p:Pb}{H:List Hg}{all:List (List Int)}{V:Pl×Int}(h:zM8 p H (all.find? (zCt p H))=V):∃(N:Nat) (stop:Bool) (x:Pl) (e:Int),(stop=true→0<N∧N≤all.length)∧(stop=false→N=all.length)∧(∀i,i<N→zAs N stop i = !zCt p H (all.getD i []))∧(∀i,i<N→zCt p H (all.getD i [])=true→zDC p H (all.getD i [])=(x,e))∧V=bif stop then (x,e)else (plZ,60):=by
 rcases zIO (zCt p H) all with ⟨i0,h1,h2,h3⟩|hno
 ·rw[zIM h1 h2 h3]at h
  refine⟨i0+1,true,V.1,V.2,fun _=>⟨Nat.succ_pos _,h1⟩,(fun h=>by cases h),fun i hi=> ?_,fun i hi hh=> ?_,rfl⟩
  ·unfold zAs
   by_cases e:i=i0
   ·subst e;rw[h2,Nat.beq_refl];rfl
   ·rw[h3 i xD,show Nat.beq (i+1) (i0+1)=false from Bool.eq_false_iff.2 fun h=>e (by have:=Nat.eq_of_beq_eq_true h;omega)];rfl
  ·by_cases e:i=i0
   ·subst e;exact h
   ·rw[h3 i xD]at hh;cases hh
 ·rw[zL7 hno]at h
  refine⟨all.length,false,plZ,60,(fun h=>by cases h),fun _=>rfl,fun i hi=> ?_,fun i hi hh=> ?_,h.symm⟩
  ·rw[hno i hi];rfl
  ·rw[hno i hi]at hh;cases hh
theorem zGG{ids ni:List Nat}(q:Pb)(e:Int):BackA ids ni (.tu [.ag (pbC q),.c (iC e)]) (.tu [.ag (pbC q),.c (iC e)]):=.tu ⟨.ag ⟨.imm _ rfl,.imm _ rfl,.imm _ rfl,.imm _ rfl,.imm _ rfl,trivial⟩,.c (.imm _ rfl),trivial⟩
abbrev zC4(p:Pb):CV:=.pl 1 5 (lF (pbC p)) 0 0
theorem zJH{l:List Int}{m:Nat}(h:m≤l.length):∀k,k<m-0→∀j,j<1→iF (fI l) (0+k) j=iF (fI (l.take m)) k j:=fun k hk j _=>by
 show iC (l.getD (0+k) 0)=iC ((l.take m).getD k 0);rw[Nat.zero_add,List.getD_eq_getElem?_getD,List.getD_eq_getElem?_getD,List.getElem?_take_of_lt xD]
abbrev anR(m:Nat)(c s:List Int)(k:Nat):List Int:=(s.take k).map fun i=>fI c (m+i.toNat)
abbrev chJ(l:List Int):AB:=zAc l.length (fI l)
theorem zK4{m:Nat}{c s:List Int}{k i:Nat}(hk:k<s.length)(hi:fI s k=(i:Int)):anR m c s (k+1)=anR m c s k++ [fI c (m+i)]:=by
 unfold anR;rw[List.take_add_one,List.getElem?_eq_getElem hk,List.map_append];have e:s[k]=(i:Int):=by
  rw[←hi];show _=s.getD k 0;rw[List.getD_eq_getElem?_getD,List.getElem?_eq_getElem hk]
  rfl
 rw[e]
 rfl
theorem anR_all{m:Nat}{c s:List Int}:anR m c s s.length=s.map fun i=>fI c (m+i.toNat):=by
 unfold anR;rw[List.take_length]
theorem zKM(p:Pb)(hp:p.ok)(H:List Hg)(hH:zCB H):ACalls Tryz.prog 9 [.ag (pbC p),.c (lsH H)] (.tu [.ag (plC (zBx p H).1),.c (iC (zBx p H).2)]):=by
 have hC:=zDH p hp
 obtain⟨V,hV⟩:∃V,zBx p H=V:=⟨_,rfl⟩
 rw[hV];unfold zBx at hV
 obtain⟨e,he⟩:∃e,zAr p=e:=⟨_,rfl⟩
 rw[he]at hC hV;by_cases h0:e=0;rotate_left
 ·rw [if_neg h0]at hV
  subst hV;refine zJ Tryz.func9 rfl rfl Tryz.ntmps9 rfl ?_
  repeat (first
   |refine vB [0,2,3] ?_
   | (refine rG 1 ?_
      refine vA ?_;refine xB Tryz.func25 hC ?_;refine vA ?_;refine aB ?_))
  refine⟨zC 103 [(4,.c (.pt 4 3 0 0)),(5,.c (.pt 5 1 0 0))] [(4,bxP (plC (plZ))),(5,zAQ (e))] [4,5],[(4,bxP (plC (plZ))),(5,zAQ (e))],Wk.mk [(4,some 4),(5,some 5)] rfl rfl rfl ?_ ?_,rfl,rfl,ARets.two (x:=.ag _) (y:=.c _) (ARes.box zA rfl rfl rfl rfl rfl rfl rfl) (zDr zA rfl rfl rfl rfl rfl rfl)⟩
  ·exact zB
  ·exact⟨HeapOk.box rfl rfl ⟨LeC.nils _ _,LeC.nils _ _,LeC.nils _ _,trivial⟩ rfl,HeapOk.box rfl rfl ⟨LeC.refl _ rfl,trivial⟩ rfl,trivial⟩
 subst h0;rw[if_pos rfl]at hV;by_cases h8:8<H.length
 ·rw [if_pos h8]at hV
  subst hV;have h8':(H.length:Int)>8:=by omega
  refine zJ Tryz.func9 rfl rfl Tryz.ntmps9 rfl ?_
  repeat (first
   |refine vB [0,2,4,5] ?_
   | (refine rG 1 ?_
      refine vA ?_;refine xB Tryz.func25 hC ?_;refine vA ?_;refine aB ?_))
  refine⟨zC 103 [(4,.c (.pt 4 3 0 0)),(5,.c (.pt 5 1 0 0))] [(4,bxP (plC (plZ))),(5,zAQ (2))] [4,5],[(4,bxP (plC (plZ))),(5,zAQ (2))],Wk.mk [(4,some 4),(5,some 5)] rfl rfl rfl ?_ ?_,rfl,rfl,ARets.two (x:=.ag _) (y:=.c _) (ARes.box zA rfl rfl rfl rfl rfl rfl rfl) (zDr zA rfl rfl rfl rfl rfl rfl)⟩
  ·exact zB
  ·exact⟨HeapOk.box rfl rfl ⟨LeC.nils _ _,LeC.nils _ _,LeC.nils _ _,trivial⟩ rfl,HeapOk.box rfl rfl ⟨LeC.refl _ rfl,trivial⟩ rfl,trivial⟩
 rw[if_neg h8]at hV;have h8':¬(H.length:Int)>8:=by omega
 have hA:=zPn H xD;have hW0:=(zFq p hp H hH [] (Nat.zero_le _)).cv (args':= [.ag (pbC p),.c (lsH H),.c (.p (.slice none 0 0))]) ⟨.ag (zCj _),.c (Cv.refl _),.c Cv.nil,trivial⟩;have hW1:=zFq p hp H hH (zBr H.length) (by rw[zH9];omega)
 obtain⟨q0,hq0⟩:∃q,zAd p H []=q:=⟨_,rfl⟩
 obtain⟨q1,hq1⟩:∃q,zAd p H (zBr H.length)=q:=⟨_,rfl⟩
 rw[hq0]at hV hW0;rw[hq1]at hV hW1
 obtain⟨q0,e0⟩:=q0
 obtain⟨q1,e1⟩:=q1
 dsimp only at hV hW0 hW1;refine zJ Tryz.func9 rfl rfl Tryz.ntmps9 rfl ?_
 repeat (first
  |refine vB [0,2,4] ?_
  | (refine rG 1 ?_
     refine vA ?_;refine xB Tryz.func25 hC ?_;refine vA ?_;refine aB ?_)
  | (refine rG 6 ?_
     refine vA ?_;refine xB Tryz.func26 hA ?_;refine xE3 ?_;refine aB ?_))
 refine AWp.round (fun k:Nat=>zC 103 [(2,.c (zC4 p)),(3,.c (pl1 (lsH H))),(4,.c (.pt 4 3 0 0)),(5,.c (.pt 5 1 0 0)),(29,.c (.ls 2 1 (sF [.p (.slice none 0 0),lsI (zBr H.length)] 1))),(30,.c (iC 2)),(31,.c (iC (k:Nat)))] [(4,bxP zBg),(5,zAQ 0)] [4,5]) (fun k=>k≤2∧(0<k→e0=0)∧(1<k→e1=0)) (fun k=>2-k) 0 ⟨Nat.zero_le _,fun h=>absurd h (by decide),fun h=>absurd h (by decide)⟩ ?_ (fun k hk=> ?_)
 ·refine Wk.mk [(4,some 4),(5,some 5)] rfl rfl rfl ?_ ?_
  ·repeat (first|exact trivial|refine⟨⟨_,rfl,by first|exact LeA.c (zCp rfl rfl rfl rfl)|exact leT⟩,?_⟩)
  ·exact⟨hSm,hSm,trivial⟩
 obtain⟨hk,hk0,hk1⟩:=hk
 obtain rfl|rfl|rfl:k=0∨k=1∨k=2:=by omega
 ·by_cases h:e0=0
  ·subst h
   repeat (first
    |refine vB [7,10,12] ?_
    | (refine rG 8 ?_
       first|refine zG (aP (k:=0) zA) ?_|refine zI (zH (k:=0) zA) ?_
       refine xE2 ?_;refine aB ?_)
    | (refine rG 9 ?_
       refine xE3 ?_;refine xB Tryz.func27 hW0 ?_;refine xE6 ?_;refine aB ?_))
   refine⟨1,⟨by omega,fun _=>rfl,fun h=>absurd h (by decide)⟩,Wk.mk [(4,some 4),(5,some 5)] rfl rfl rfl ?_ ?_,by omega⟩
   ·exact zB
   ·exact⟨hSm,hSm,trivial⟩
  ·rw [if_neg h]at hV
   subst hV
   repeat (first
    |refine vB [7,10,11] ?_
    | (refine rG 8 ?_
       first|refine zG (aP (k:=0) zA) ?_|refine zI (zH (k:=0) zA) ?_
       refine xE2 ?_;refine aB ?_)
    | (refine rG 9 ?_
       refine xE3 ?_;refine xB Tryz.func27 hW0 ?_;refine xE6 ?_;refine aB ?_))
   refine⟨zC 103 [(4,.c (.pt 4 3 0 0)),(5,.c (.pt 5 1 0 0))] [(4,bxP (plC (plZ))),(5,zAQ (e0))] [4,5],[(4,bxP (plC (plZ))),(5,zAQ (e0))],Wk.mk [(4,some 4),(5,some 5)] rfl rfl rfl ?_ ?_,rfl,rfl,ARets.two (x:=.ag _) (y:=.c _) (ARes.box zA rfl rfl rfl rfl rfl rfl rfl) (zDr zA rfl rfl rfl rfl rfl rfl)⟩
   ·exact zB
   ·exact⟨HeapOk.box rfl rfl ⟨LeC.nils _ _,LeC.nils _ _,LeC.nils _ _,trivial⟩ rfl,HeapOk.box rfl rfl ⟨LeC.refl _ rfl,trivial⟩ rfl,trivial⟩
 ·obtain rfl:=hk0 (by decide)
  rw[if_pos rfl]at hV;by_cases h:e1=0
  ·subst h
   repeat (first
    |refine vB [7,10,12] ?_
    | (refine rG 8 ?_
       first|refine zG (aP (k:=1) zA) ?_|refine zI (zH (k:=1) zA) ?_
       refine xE2 ?_;refine aB ?_)
    | (refine rG 9 ?_
       refine xE3 ?_;refine xB Tryz.func27 hW1 ?_;refine xE6 ?_;refine aB ?_))
   refine⟨2,⟨by omega,fun _=>rfl,fun _=>rfl⟩,Wk.mk [(4,some 4),(5,some 5)] rfl rfl rfl ?_ ?_,by omega⟩
   ·exact zB
   ·exact⟨hSm,hSm,trivial⟩
  ·rw [if_neg h]at hV
   subst hV
   repeat (first
    |refine vB [7,10,11] ?_
    | (refine rG 8 ?_
       first|refine zG (aP (k:=1) zA) ?_|refine zI (zH (k:=1) zA) ?_
       refine xE2 ?_;refine aB ?_)
    | (refine rG 9 ?_
       refine xE3 ?_;refine xB Tryz.func27 hW1 ?_;refine xE6 ?_;refine aB ?_))
   refine⟨zC 103 [(4,.c (.pt 4 3 0 0)),(5,.c (.pt 5 1 0 0))] [(4,bxP (plC (plZ))),(5,zAQ (e1))] [4,5],[(4,bxP (plC (plZ))),(5,zAQ (e1))],Wk.mk [(4,some 4),(5,some 5)] rfl rfl rfl ?_ ?_,rfl,rfl,ARets.two (x:=.ag _) (y:=.c _) (ARes.box zA rfl rfl rfl rfl rfl rfl rfl) (zDr zA rfl rfl rfl rfl rfl rfl)⟩
   ·exact zB
   ·exact⟨HeapOk.box rfl rfl ⟨LeC.nils _ _,LeC.nils _ _,LeC.nils _ _,trivial⟩ rfl,HeapOk.box rfl rfl ⟨LeC.refl _ rfl,trivial⟩ rfl,trivial⟩
 obtain rfl:=hk0 (by decide);obtain rfl:=hk1 (by decide);rw[if_pos rfl,if_pos rfl]at hV;have hS:=zR4 (H.length:Nat)
 repeat (first
  |refine vB [7,13] ?_
  | (refine rG 14 ?_
     refine xE2 ?_;refine xB Tryz.func28 hS ?_;refine aB ?_))
 obtain⟨all,hal⟩:∃all,zBA H.length (H.length+1)=all:=⟨_,rfl⟩
 rw[hal]at hV
 obtain⟨N,stop,x,e,hN1,hN2,hgo,hpl,hVe⟩:=zQ4 hV
 clear hV;have hmem:∀i,i<N→zA9 H.length (all.getD i [])=true∧(all.getD i []).length≤H.length:=fun i hi=>by
  have hi':i<all.length:=by
   cases hs:stop with
   |true=>have:=(hN1 hs).2;omega
   |false=>rw[←hN2 hs];exact hi
  have:=zJO (n:=H.length) (k:=H.length+1) (s:=all.getD i []) (by rw[hal,List.getD_eq_getElem?_getD,List.getElem?_eq_getElem hi'];exact List.getElem_mem hi')
  exact⟨this.1,by omega⟩
 have hc3:zEs (plC x):=fun j hj=>by match j,hj with|0,_|1,_|2,_=>rfl
 refine zOw (N:=N) (stop:=stop) (eS:=.exit 2) (A:=zA8 all N stop (plC x) e) (M:=all.length) (cs:= [.c (pl1 (iC (H.length:Nat)))]) (ts:= [(2,.c (zC4 p)),(3,.c (pl1 (lsH H))),(4,.c (.pt 1000 3 0 0)),(5,.c (.pt 1001 1 0 0))]) [4,5] [] [] (zA1 (plC x) e stop) [] rfl (enters_of Tryz.func57 xC rfl) (fun i hi f k D e=>by
  obtain rfl:i=0:=xD
  cases e) (by exact⟨.c (.b (.imm _ rfl)),trivial⟩) (zR3 all H.length N stop (plC x) e hc3 xD hal.symm (fun h=>(hN1 h).1) hN2) (fun _ h=>h) hN1 hN2 ⟨⟨_,rfl,(fun h=>by cases h),fun k hk j hj=> ?_⟩,⟨_,rfl,(fun h=>by cases h),fun k hk j hj=> ?_⟩,trivial⟩ trivial rfl (fun i _=>⟨rfl,rfl,by show 0≤100;omega⟩) rfl rfl ?_ rfl (fun _ _=>rfl) (.inr ⟨_,rfl⟩) (fun i hi=> ?_) ?_ trivial ?_
 ·obtain rfl:k=0:=Nat.lt_one_iff.mp hk
  match j,hj with
  |0,_|1,_|2,_=>exact .b (.imm _ rfl)
 ·obtain rfl:k=0:=Nat.lt_one_iff.mp hk
  obtain rfl:j=0:=Nat.lt_one_iff.mp hj;exact .b (.imm _ rfl)
 ·exact⟨⟨_,rfl,.c (.b (.imm _ rfl))⟩,⟨_,rfl,.c (.b (.imm _ rfl))⟩,⟨_,rfl,.c (.b (.pt 4 0 3 0 0 rfl))⟩,⟨_,rfl,.c (.b (.pt 5 1 1 0 0 rfl))⟩,trivial⟩
 ·obtain ⟨hs1,hs2⟩:=hmem i hi
  have hgi:=hgo i hi;have hpi:=hpl i hi;have hE:(zA8 all N stop (plC x) e).hE (i+1)=zA1 (plC x) e (!zAs N stop i):=by show zA1 _ _ (stop && Nat.beq (i+1) N)=_;unfold zAs;rw[Bool.not_not]
  have hla:(zA8 all N stop (plC x) e).la i=laR (all.getD i []):=rfl;have hys:(zA8 all N stop (plC x) e).ys i= [laY (all.getD i [])]:=rfl;rw[hE,hla,hys,hgi];clear hE hla hys hgi hpl hgo hmem
  obtain⟨s,hs⟩:∃s,all.getD i []=s:=⟨_,rfl⟩
  rw[hs]at hs1 hs2 hpi⊢;have hSl:=fun h:(zAd p H s).2=0=>zKU (zAd p H s).1 (by rw[(zFa h).1];exact zEl s hp hH he)
  have hql:=fun h:(zAd p H s).2=0=>show(zAd p H s).1.C.length=p.C.length+H.length by rw[(zFa h).1];show(p.C++anC H s H.length).length=_;rw[List.length_append,zEJ]
  have hWp:=zFq p hp H hH s xD;have hWg:=zPc p hp H hH s xD;have hhit:zCt p H s=(decide ((zAd p H s).2=0) && (decide ((zAZ (zAd p H s).1).2=0)||decide ((zAZ (zAd p H s).1).2=61))):=rfl;have hplan:zDC p H s=if (zAZ (zAd p H s).1).2=0 then (zDB p (zAZ (zAd p H s).1).1 s,0)else (plZ,61):=rfl
  have hfit:=zCE hp he;have lC:=hfit.c;generalize zAd p H s=w at *
  obtain⟨q,we⟩:=w
  dsimp only at hSl hql hWp hWg hhit hplan;have hsl:= @zNT q;generalize zAZ q=o at *
  obtain⟨c,f⟩:=o
  dsimp only at hSl hsl hhit hplan;rw[hhit,hplan]at hpi;rw[hhit];clear hhit hplan hs
  obtain⟨b,hb⟩:∃b,(decide (we=0) && (decide (f=0)||decide (f=61)))=b:=⟨_,rfl⟩
  rw[hb]at hpi⊢
  cases s with
  | nil=>
    have hWp:=hWp.cv (args':= [.ag (pbC p),.c (lsH H),.c (lsI [])]) ⟨.ag (zCj _),.c (Cv.refl _),.c (Cv.refl _),trivial⟩;refine AWp.weak (S':=
     mkG (fun _=>True) 0 false 103 2 [(2,.c (zC4 p)),(3,.c (pl1 (lsH H))),(4,.c (.pt 1000 3 0 0)),(5,.c (.pt 1001 1 0 0)),(50,.c (lsI []))] [(1000,bxP zBg),(1001,zAQ 60)] []
     ) (Wk.mkG [] rfl rfl rfl rfl rfl ?_ ?_ rfl rfl (fun _ _=>trivial)) ?_
    ·repeat (first|exact trivial|refine⟨⟨_,rfl,by first|exact LeA.c (LeC.ptB _ _ _ _ rfl)|exact LeA.c (LeC.owB _ rfl)|exact leT⟩,?_⟩)
    ·exact zA3 zBf rfl rfl trivial
    refine vB [15] ?_
    refine⟨rfl,?_⟩
    by_cases hw0:we=0;rotate_left
    ·obtain rfl:b=false:=by rw[←hb,decide_eq_false hw0];rfl
     repeat (first
      |refine vB [17] ?_
      | (refine rG 16 ?_
         refine xE3 ?_;refine xB Tryz.func27 hWp ?_;refine xE6 ?_;refine aB ?_))
     refine⟨rfl,mkG (fun _=>True) 0 true 103 2 [] (zAy [] (zA1 (plC x) e false++laR [])) [],[],Wk.mkG [] rfl rfl rfl rfl rfl trivial ?_ rfl rfl (fun _ _=>trivial),rfl,rfl⟩
     exact zA3 zBf rfl rfl trivial
    replace hSl:=hSl hw0
    replace hql:=hql hw0
    subst hw0;by_cases hf0:f=0
    ·obtain rfl:b=true:=by rw[←hb,decide_eq_true hf0];rfl
     rw[if_pos hf0]at hpi
     replace hsl:=hsl hf0
     subst hf0
     obtain⟨rfl,rfl⟩:zDB p c []=x∧(0:Int)=e:=Prod.mk.inj (hpi rfl)
     have hC0:=zHQ 0 (iF (fI [])) (fun _ _ _ _=>rfl) xD;have hC1:=zHQ (p.C.length-0) (fun k j=>iF (fI c) (0+k) j) (fun _ _ _ _=>rfl) xD
     repeat (first
      |refine vB [17,19,20,22] ?_
      | (refine rG 16 ?_
         refine xE3 ?_;refine xB Tryz.func27 hWp ?_;refine xE6 ?_;refine aB ?_)
      | (refine rG 18 ?_
         refine vA ?_;refine xB Tryz.func29 hSl ?_;refine xE5 ?_;refine aB ?_)
      |(refine AWp.draw (id:=21) zK ?_;refine vA ?_;(first|refine xB Tryz.func30 hC0 ?_|refine xB Tryz.func30 hC1 ?_);refine xE4 ?_;refine AList.cut (l:=0) (h:=p.C.length) zA rfl rfl rfl rfl rfl rfl rfl rfl ⟨_,_,rfl,by first|rfl|omega⟩ xD xD ?_;(first|refine xB Tryz.func30 hC0 ?_|refine xB Tryz.func30 hC1 ?_);refine xE4 ?_;refine aB ⟨by kernel_rfl,?_⟩))
     refine AWp.round (fun _:Nat=>
      mkG (fun _=>True) 0 true 103 2 [(2,.c (zC4 p)),(3,.c (pl1 (lsH H))),(4,.c (.pt 1000 3 0 0)),(5,.c (.pt 1001 1 0 0)),(79,.c (iC 0)),(80,.c (iC 0))] [(1000,bxP [lsI [],.p (.slice none 0 0),lsI (c.take p.C.length)]),(1001,zAQ 60)] []
      ) (fun _=>True) (fun _=>0) 0 trivial ?_ (fun _ _=> ?_)
     ·refine Wk.mkG [] rfl rfl rfl rfl rfl ?_ ?_ rfl rfl (fun _ _=>trivial)
      ·repeat (first|exact trivial|refine⟨⟨_,rfl,by first|exact LeA.c (LeC.ptB _ _ _ _ rfl)|exact leT⟩,?_⟩)
      ·exact⟨zAe rfl rfl ⟨LeC.refl _ rfl,LeC.refl _ rfl,zCO (by rw[List.length_take];omega) (zJH xD),trivial⟩ rfl,zAe rfl rfl ⟨LeC.refl _ rfl,trivial⟩ rfl,trivial⟩
     refine vB [23,27] ?_
     refine⟨rfl,mkG (fun _=>True) 0 true 103 2 [] (zAy [] (zA1 (plC (zDB p c [])) 0 true++laR [])) [],[],Wk.mkG [] rfl rfl rfl rfl rfl trivial ?_ rfl rfl (fun _ _=>trivial),rfl,rfl⟩
     exact⟨zAe rfl rfl ⟨LeC.refl _ rfl,LeC.nils _ _,LeC.refl _ rfl,trivial⟩ rfl,zAe rfl rfl ⟨LeC.refl _ rfl,trivial⟩ rfl,trivial⟩
    by_cases hf1:f=61
    ·obtain rfl:b=true:=by rw[←hb,decide_eq_true hf1];simp
     rw[if_neg hf0]at hpi
     obtain⟨rfl,rfl⟩:plZ=x∧(61:Int)=e:=Prod.mk.inj (hpi rfl)
     subst hf1
     repeat (first
      |refine vB [17,19,20,28,29] ?_
      | (refine rG 16 ?_
         refine xE3 ?_;refine xB Tryz.func27 hWp ?_;refine xE6 ?_;refine aB ?_)
      | (refine rG 18 ?_
         refine vA ?_;refine xB Tryz.func29 hSl ?_;refine xE5 ?_;refine aB ?_))
     refine⟨rfl,mkG (fun _=>True) 0 true 103 2 [] (zAy [] (zA1 (plC plZ) 61 true++laR [])) [],[],Wk.mkG [] rfl rfl rfl rfl rfl trivial ?_ rfl rfl (fun _ _=>trivial),rfl,rfl⟩
     exact⟨zAe rfl rfl ⟨LeC.nils _ _,LeC.nils _ _,LeC.nils _ _,trivial⟩ rfl,zAe rfl rfl ⟨LeC.refl _ rfl,trivial⟩ rfl,trivial⟩
    ·obtain rfl:b=false:=by rw[←hb,decide_eq_false hf0,decide_eq_false hf1];simp
     repeat (first
      |refine vB [17,19,20,28] ?_
      | (refine rG 16 ?_
         refine xE3 ?_;refine xB Tryz.func27 hWp ?_;refine xE6 ?_;refine aB ?_)
      | (refine rG 18 ?_
         refine vA ?_;refine xB Tryz.func29 hSl ?_;refine xE5 ?_;refine aB ?_))
     refine⟨rfl,mkG (fun _=>True) 0 true 103 2 [] (zAy [] (zA1 (plC x) e false++laR [])) [],[],Wk.mkG [] rfl rfl rfl rfl rfl trivial ?_ rfl rfl (fun _ _=>trivial),rfl,rfl⟩
     exact zA3 zBf rfl rfl trivial
  | cons y l=>
    obtain⟨s,hs⟩:∃s,y::l=s:=⟨_,rfl⟩
    have hla:laR (y::l)= [zAc s.length (fI s)]:=by rw[←hs];rfl
    have hly:laY (y::l)=.c (.ow 1002):=rfl;rw[hla,hly];have hspos:0<s.length:=by rw[←hs];exact Nat.succ_pos _
    rw[hs]at hs1 hs2 hpi hWp hWg;clear hs hla hly;refine AWp.weak (S':=
     mkG (fun _=>True) 0 false 103 3 [(2,.c (zC4 p)),(3,.c (pl1 (lsH H))),(4,.c (.pt 1000 3 0 0)),(5,.c (.pt 1001 1 0 0)),(50,.c (.ow 1002))] [(1000,bxP zBg),(1001,zAQ 60),(1002,zAc s.length (fI s))] []
     ) (Wk.mkG [] rfl rfl rfl rfl rfl ?_ ?_ rfl rfl (fun _ _=>trivial)) ?_
    ·repeat (first|exact trivial|refine⟨⟨_,rfl,by first|exact LeA.c (LeC.ptB _ _ _ _ rfl)|exact LeA.c (LeC.owB _ rfl)|exact leT⟩,?_⟩)
    ·exact zA3 zBf rfl rfl ⟨lrw,trivial⟩
    refine vB [15] ?_
    refine⟨rfl,?_⟩
    by_cases hw0:we=0;rotate_left
    ·obtain rfl:b=false:=by rw[←hb,decide_eq_false hw0];rfl
     repeat (first
      |refine vB [17] ?_
      | (refine rG 16 ?_
         refine xE3 ?_;refine AList.callG [1002] [] [zAc s.length (fI s)] [zAc s.length (fI s)] [] [zAc s.length (fI s)] [] rfl rfl FnV.func rfl Tryz.func27 rfl xC (⟨⟨_,rfl,fun _=>hspos,fun _ _ _ _=>.inl ⟨rfl,rfl⟩⟩,trivial⟩) rfl (zGG _ _) (⟨⟨_,rfl,fun _ _ _ _=>.imm _ rfl⟩,trivial⟩) (trivial) (hWg) ?_;refine xE6 ?_;refine aB ?_))
     refine⟨rfl,mkG (fun _=>True) 0 true 103 3 [] (zAy [] (zA1 (plC x) e false++ [zAc s.length (fI s)])) [],[],Wk.mkG [] rfl rfl rfl rfl rfl trivial ?_ rfl rfl (fun _ _=>trivial),rfl,rfl⟩
     exact zA3 zBf rfl rfl ⟨lrw,trivial⟩
    replace hSl:=hSl hw0
    replace hql:=hql hw0
    subst hw0;by_cases hf0:f=0
    ·obtain rfl:b=true:=by rw[←hb,decide_eq_true hf0];rfl
     rw[if_pos hf0]at hpi
     replace hsl:=hsl hf0
     subst hf0
     obtain⟨rfl,rfl⟩:zDB p c s=x∧(0:Int)=e:=Prod.mk.inj (hpi rfl)
     have hC0:=zOF s.length (fI s) hspos xD;have hC1:=zHQ (p.C.length-0) (fun k j=>iF (fI c) (0+k) j) (fun _ _ _ _=>rfl) xD
     repeat (first
      |refine vB [17,19,20,22] ?_
      | (refine rG 16 ?_
         refine xE3 ?_;refine AList.callG [1002] [] [zAc s.length (fI s)] [zAc s.length (fI s)] [] [zAc s.length (fI s)] [] rfl rfl FnV.func rfl Tryz.func27 rfl xC (⟨⟨_,rfl,fun _=>hspos,fun _ _ _ _=>.inl ⟨rfl,rfl⟩⟩,trivial⟩) rfl (zGG _ _) (⟨⟨_,rfl,fun _ _ _ _=>.imm _ rfl⟩,trivial⟩) (trivial) (hWg) ?_;refine xE6 ?_;refine aB ?_)
      | (refine rG 18 ?_
         refine vA ?_;refine xB Tryz.func29 hSl ?_;refine xE5 ?_;refine aB ?_)
      |(refine AWp.draw (id:=21) zK ?_;refine vA ?_;(first|refine zJ3 [1002] rfl rfl rfl rfl Tryz.func30 rfl xC (hC0) (⟨.inr ⟨1002,s.length,1,_,_,iF (fI s),rfl,rfl,by simp,rfl,fun _ _=>zAa ⟨rfl,rfl⟩⟩,trivial⟩) (fun _ _ _ _=>rfl) ?_|refine xB Tryz.func30 hC1 ?_);refine xE4 ?_;refine AList.cut (l:=0) (h:=p.C.length) zA rfl rfl rfl rfl rfl rfl rfl rfl ⟨_,_,rfl,by first|rfl|omega⟩ xD xD ?_;(first|refine zJ3 [1002] rfl rfl rfl rfl Tryz.func30 rfl xC (hC0) (⟨.inr ⟨1002,s.length,1,_,_,iF (fI s),rfl,rfl,by simp,rfl,fun _ _=>zAa ⟨rfl,rfl⟩⟩,trivial⟩) (fun _ _ _ _=>rfl) ?_|refine xB Tryz.func30 hC1 ?_);refine xE4 ?_;refine aB ⟨by kernel_rfl,?_⟩))
     refine AWp.round (fun k:Nat=>
      mkG (fun _=>True) 0 true 103 3 [(2,.c (zC4 p)),(3,.c (pl1 (lsH H))),(4,.c (.pt 1000 3 0 0)),(5,.c (.pt 1001 1 0 0)),(14,.c (lsI c)),(78,.c (.ow 1002)),(79,.c (iC (s.length:Nat))),(80,.c (iC (k:Nat)))] [(21,chJ (anR p.C.length c s k)),(1000,bxP [lsI s,.ow 21,lsI (c.take p.C.length)]),(1001,zAQ 60),(1002,zAc s.length (fI s))] [21]
      ) (fun k=>k≤s.length) (fun k=>s.length-k) 0 (Nat.zero_le _) ?_ (fun k hk=> ?_)
     ·refine Wk.mkG [(21,none)] rfl rfl rfl rfl rfl ?_ ?_ rfl rfl (fun _ _=>trivial)
      ·repeat (first|exact trivial|refine⟨⟨_,rfl,by first|exact LeA.c (LeC.ptB _ _ _ _ rfl)|exact LeA.c (LeC.owB _ rfl)|exact leT⟩,?_⟩)
      ·exact⟨HeapOk.nil rfl rfl,zAe rfl rfl ⟨zZ rfl rfl rfl (fun _ _ _ _=>⟨rfl,rfl⟩),LeC.nil _ rfl,zCO (by rw[List.length_take];omega) (zJH xD),trivial⟩ rfl,zAe rfl rfl ⟨LeC.refl _ rfl,trivial⟩ rfl,lrw,trivial⟩
     by_cases hks:k<s.length
     ·have hks':(k:Int)<s.length:=by omega
      obtain⟨hv0,hv1,-⟩:=nmOk_iff.1 hs1 k hks
      obtain⟨i,hi⟩:=Int.eq_ofNat_of_zero_le hv0
      have hcy:iF (fI s) k 0=iC (i:Nat):=by show iC (fI s k)=_;rw[hi]
      have hap:=zDt (anR p.C.length c s k) (fI c (p.C.length+i));have hal:(anR p.C.length c s k).length=k:=by unfold anR;rw[List.length_map,List.length_take];omega
      have h21:((21,chJ (anR p.C.length c s k)):Nat×AB).snd.n=k:=hal;have hcv:iF (fI c) (p.C.length+i) 0=iC (fI c (p.C.length+i)):=rfl
      repeat (first
       |refine vB [23,26] ?_
       | (refine rG 24 ?_
          first|refine zG (aP (k:=k) zA) ?_|refine zI (zH (k:=k) zA) ?_
          first|refine zY zA (hcy) rfl rfl rfl rfl rfl oM ?_|refine zAp zA rfl rfl rfl rfl rfl rfl rfl oM oM (hcy) ?_
          refine vA ?_;refine aB ?_)
       |(refine AWp.draw (id:=25) zK ?_;refine xE8 ?_;(first|refine zG (aP (k:=p.C.length+i) zA) ?_|refine zI (zH (k:=p.C.length+i) zA) ?_);(first|refine zY zA (hcv) rfl rfl rfl rfl rfl oM ?_|refine zAp zA rfl rfl rfl rfl rfl rfl rfl oM oM (hcv) ?_);refine vA ?_;refine xA ?_;refine xE2 ?_;refine aB ⟨by kernel_rfl,?_⟩))
      refine⟨k+1,hks,?_,by omega⟩
      rw[zK4 hks hi];refine Wk.mkG [(21,some 95)] rfl rfl rfl rfl rfl ?_ ?_ rfl rfl (fun _ _=>trivial)
      ·repeat (first|exact trivial|refine⟨⟨_,rfl,by first|exact LeA.c (LeC.ptB _ _ _ _ rfl)|exact LeA.c (LeC.owB _ rfl)|exact leT⟩,?_⟩)
      ·exact⟨HeapOk.row rfl rfl List.length_append hap,zAe rfl rfl ⟨LeC.refl _ rfl,LeC.ow _ _ rfl,LeC.refl _ rfl,trivial⟩ rfl,zAe rfl rfl ⟨LeC.refl _ rfl,trivial⟩ rfl,lrw,trivial⟩
     have hks':¬(k:Int)<s.length:=by omega
     obtain rfl:k=s.length:=by omega
     refine vB [23,27] ?_
     refine⟨rfl,mkG (fun _=>True) 0 true 103 3 [] (zAy [] (zA1 (plC (zDB p c s)) 0 true++ [zAc s.length (fI s)])) [],[],Wk.mkG [] rfl rfl rfl rfl rfl trivial ?_ rfl rfl (fun _ _=>trivial),rfl,rfl⟩
     exact⟨zAe rfl rfl ⟨LeC.refl _ rfl,zZ rfl rfl (congrArg List.length anR_all.symm) (fun i _ j _=>⟨congrArg (fun l=>iF (fI l) i j) anR_all,rfl⟩),LeC.refl _ rfl,trivial⟩ rfl,zAe rfl rfl ⟨LeC.refl _ rfl,trivial⟩ rfl,lrw,trivial⟩
    by_cases hf1:f=61
    ·obtain rfl:b=true:=by rw[←hb,decide_eq_true hf1];simp
     rw[if_neg hf0]at hpi
     obtain⟨rfl,rfl⟩:plZ=x∧(61:Int)=e:=Prod.mk.inj (hpi rfl)
     subst hf1
     repeat (first
      |refine vB [17,19,20,28,29] ?_
      | (refine rG 16 ?_
         refine xE3 ?_;refine AList.callG [1002] [] [zAc s.length (fI s)] [zAc s.length (fI s)] [] [zAc s.length (fI s)] [] rfl rfl FnV.func rfl Tryz.func27 rfl xC (⟨⟨_,rfl,fun _=>hspos,fun _ _ _ _=>.inl ⟨rfl,rfl⟩⟩,trivial⟩) rfl (zGG _ _) (⟨⟨_,rfl,fun _ _ _ _=>.imm _ rfl⟩,trivial⟩) (trivial) (hWg) ?_;refine xE6 ?_;refine aB ?_)
      | (refine rG 18 ?_
         refine vA ?_;refine xB Tryz.func29 hSl ?_;refine xE5 ?_;refine aB ?_))
     refine⟨rfl,mkG (fun _=>True) 0 true 103 3 [] (zAy [] (zA1 (plC plZ) 61 true++ [zAc s.length (fI s)])) [],[],Wk.mkG [] rfl rfl rfl rfl rfl trivial ?_ rfl rfl (fun _ _=>trivial),rfl,rfl⟩
     exact⟨zAe rfl rfl ⟨LeC.nils _ _,LeC.nils _ _,LeC.nils _ _,trivial⟩ rfl,zAe rfl rfl ⟨LeC.refl _ rfl,trivial⟩ rfl,lrw,trivial⟩
    ·obtain rfl:b=false:=by rw[←hb,decide_eq_false hf0,decide_eq_false hf1];simp
     repeat (first
      |refine vB [17,19,20,28] ?_
      | (refine rG 16 ?_
         refine xE3 ?_;refine AList.callG [1002] [] [zAc s.length (fI s)] [zAc s.length (fI s)] [] [zAc s.length (fI s)] [] rfl rfl FnV.func rfl Tryz.func27 rfl xC (⟨⟨_,rfl,fun _=>hspos,fun _ _ _ _=>.inl ⟨rfl,rfl⟩⟩,trivial⟩) rfl (zGG _ _) (⟨⟨_,rfl,fun _ _ _ _=>.imm _ rfl⟩,trivial⟩) (trivial) (hWg) ?_;refine xE6 ?_;refine aB ?_)
      | (refine rG 18 ?_
         refine vA ?_;refine xB Tryz.func29 hSl ?_;refine xE5 ?_;refine aB ?_))
     refine⟨rfl,mkG (fun _=>True) 0 true 103 3 [] (zAy [] (zA1 (plC x) e false++ [zAc s.length (fI s)])) [],[],Wk.mkG [] rfl rfl rfl rfl rfl trivial ?_ rfl rfl (fun _ _=>trivial),rfl,rfl⟩
     exact zA3 zBf rfl rfl ⟨lrw,trivial⟩
 ·show zBq _ _ (zA1 (plC x) e (stop && Nat.beq N N)) _
  rw[Nat.beq_refl,Bool.and_true];exact zFF (l:= []) (m:= []) hc3 trivial
 ·cases stop with
  | true=>
    obtain rfl:V=(x,e):=hVe;refine vB [30] ?_
    refine⟨zC 103 [(4,.c (.pt 4 3 0 0)),(5,.c (.pt 5 1 0 0))] [(4,bxP (plC (x))),(5,zAQ (e))] [4,5],[(4,bxP (plC (x))),(5,zAQ (e))],Wk.mk [(4,some 4),(5,some 5)] rfl rfl rfl ?_ ?_,rfl,rfl,ARets.two (x:=.ag _) (y:=.c _) (ARes.box zA rfl rfl rfl rfl rfl rfl rfl) (zDr zA rfl rfl rfl rfl rfl rfl)⟩
    ·exact zB
    ·exact⟨HeapOk.box rfl rfl ⟨LeC.refl _ rfl,LeC.refl _ rfl,LeC.refl _ rfl,trivial⟩ rfl,HeapOk.box rfl rfl ⟨LeC.refl _ rfl,trivial⟩ rfl,trivial⟩
  | false=>
    obtain rfl:V=(plZ,60):=hVe;refine vB [30] ?_
    refine⟨zC 103 [(4,.c (.pt 4 3 0 0)),(5,.c (.pt 5 1 0 0))] [(4,bxP (plC (plZ))),(5,zAQ (60))] [4,5],[(4,bxP (plC (plZ))),(5,zAQ (60))],Wk.mk [(4,some 4),(5,some 5)] rfl rfl rfl ?_ ?_,rfl,rfl,ARets.two (x:=.ag _) (y:=.c _) (ARes.box zA rfl rfl rfl rfl rfl rfl rfl) (zDr zA rfl rfl rfl rfl rfl rfl)⟩
    ·exact zB
    ·exact⟨HeapOk.box rfl rfl ⟨LeC.nils _ _,LeC.nils _ _,LeC.nils _ _,trivial⟩ rfl,HeapOk.box rfl rfl ⟨LeC.refl _ rfl,trivial⟩ rfl,trivial⟩
end Go.Proofs.YtbffmfeldkjkcaaGreat
end
