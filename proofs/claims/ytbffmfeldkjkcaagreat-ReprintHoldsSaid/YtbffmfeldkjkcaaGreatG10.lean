/- Parts of the proof: ASrt, A24a, A24b, A24c, A24d, A24e, A24f, A24g, A24h. -/
import Derived.Test.YtbffmfeldkjkcaaGreatG07
import Derived.Test.YtbffmfeldkjkcaaGreatG09
set_option linter.unusedSimpArgs false
set_option linter.unusedVariables false
set_option maxHeartbeats 0
set_option maxRecDepth 100000
section
namespace Go.AV.Srt
section
variable{α:Type}(z:α)(lt:α→α→Bool)
def swp(L:List α)(i j:Nat):List α:=(L.set i (L.getD j z)).set j (L.getD i z)
theorem zDp{L:List α}{i j:Nat}:(swp z L i j).length=L.length:=by simp[swp]
def zCk(a:Nat):Nat→List α→List α
 |0,L=>L
 |j+1,L=>if a<j+1∧lt (L.getD (j+1) z) (L.getD j z)=true then zCk a j (swp z L (j+1) j)else L
def zCu(a:Nat):Nat→List α→List α
 |0,L=>L
 |k+1,L=>zCk z lt a (a+1+k) (zCu a k L)
def ins(a b:Nat)(L:List α):List α:=zCu z lt a (b-(a+1)) L
def swR(a b:Nat):Nat→List α→List α
 |0,L=>L
 |n+1,L=>swp z (swR a b n L) (a+n) (b+n)
def rot(m:Nat):Nat→Nat→Nat→List α→List α
 |0,_,_,L=>L
 |f+1,i,j,L=>if i=j then swR z (m-i) m i L else if j<i then rot m f (i-j) j (swR z (m-i) m j L)else rot m f i (j-i) (swR z (m-i) (m+j-i) i L)
def bs(t:Nat→Bool):Nat→Nat→Nat→Nat
 |0,i,_=>i
 |f+1,i,j=>if i<j then (if t ((i+j)/2)=true then bs t f ((i+j)/2+1) j else bs t f i ((i+j)/2))else i
def upK(a:Nat):Nat→List α→List α
 |0,L=>L
 |k+1,L=>swp z (upK a k L) (a+k) (a+k+1)
def dnK(m:Nat):Nat→List α→List α
 |0,L=>L
 |k+1,L=>swp z (dnK m k L) (m-k) (m-k-1)
def sym:Nat→Nat→Nat→Nat→List α→List α
 |0,_,_,_,L=>L
 | f+1,a,m,b,L=>
   if m-a=1 then upK z a (bs (fun h=>lt (L.getD h z) (L.getD a z)) (b-m) m b-1-a) L
   else if b-m=1 then dnK z m (m-bs (fun h=> !(lt (L.getD m z) (L.getD h z))) (m-a) a m) L
   else
    let mid:=(a+b)/2
    let n:=mid+m
    let s0:=if mid<m then n-b else a
    let r0:=if mid<m then mid else m
    let s:=bs (fun c=> !(lt (L.getD (n-1-c) z) (L.getD c z))) (r0-s0) s0 r0
    let e:=n-s
    let L1:=if s<m∧m<e then rot z m (e-s) (m-s) (e-m) L else L
    let L2:=if a<s∧s<mid then sym f a s mid L1 else L1
    if mid<e∧e<b then sym f mid e b L2 else L2
def blk(n:Nat):Nat→Nat→List α→List α
 |0,a,L=>ins z lt a n L
 |f+1,a,L=>if a+20≤n then blk n f (a+20) (ins z lt a (a+20) L)else ins z lt a n L
def mrg(n s:Nat):Nat→Nat→List α→List α
 |0,_,L=>L
 |f+1,a,L=>if a+2*s≤n then mrg n s f (a+2*s) (sym z lt (2*s) a (a+s) (a+2*s) L)else if a+s<n then sym z lt (n-a) a (a+s) n L else L
def zDU(n:Nat):Nat→Nat→List α→List α
 |0,_,L=>L
 |f+1,s,L=>if s<n then zDU n f (2*s) (mrg z lt n s n 0 L)else L
def zD4(L:List α):List α:=zDU z lt L.length L.length 20 (blk z lt L.length L.length 0 L)
end
end Go.AV.Srt
end
section
namespace Go.Proofs.YtbffmfeldkjkcaaGreat
open Go.RowKit Go.Flow Go.AV Go.AV.Srt
abbrev moC(p:Int×Int):List CV:= [iC p.1,iC p.2]
abbrev moZ:Int×Int:=(0,0)
abbrev zDV(p:Int×Int):Int:=max p.1 (-p.1)+max p.2 (-p.2)
def zV(p q:Int×Int):Bool:=decide (zDV p<zDV q)
def zDW(p q:Int×Int):Int:=if zDV p<zDV q then -1 else if zDV q<zDV p then 1 else 0
theorem mvCmp_lt{p q:Int×Int}:zV p q=true↔zDW p q<0:=by
 unfold zV zDW;rw[decide_eq_true_eq]
 split
 ·exact⟨fun _=>by omega,fun _=>by assumption⟩
 ·split<;>exact⟨fun _=>by omega,fun h=>by omega⟩
def zHc(p:Int×Int):Prop:=(-1000≤p.1∧p.1≤1000)∧-1000≤p.2∧p.2≤1000
def Oks(L:List (Int×Int)):Prop:=∀k,zHc (L.getD k moZ)
theorem zGA(n:Int)(h:-9223372036854775807≤n∧n≤9223372036854775807):ACalls Tryz.prog 106 [.c (iC n)] (.c (iC (max n (-n)))):=by
 refine zJ Tryz.func106 rfl rfl Tryz.ntmps106 rfl ?_;refine vB [0,1] ?_
 refine⟨zC 7 [(2,.c (iC (max n (-n))))] [] [],[],Wk.mk [] rfl rfl rfl ?_ trivial,rfl,rfl,aR1⟩
 exact zB
theorem zMB(n:Int):ACalls Tryz.prog 117 [.c (iC n)] (.c (bC false)):=by
 refine zJ Tryz.func117 rfl rfl Tryz.ntmps117 rfl ?_
 repeat (first
  |refine vB [0] ?_
  | (refine rG 1 ?_
     refine xE2 ?_;refine aJ rfl rfl rfl rfl rfl (by simp only[zBs,eq_self,decide_true,Bool.not_true]) ?_;refine vA ?_;refine aB ?_))
 refine⟨zC 6 [(2,.c (bC false))] [] [],[],Wk.mk [] rfl rfl rfl ?_ trivial,rfl,rfl,aR1⟩
 exact zB
theorem zOH(p q:Int):ACalls Tryz.prog 105 [.c (iC p),.c (iC q)] (.c (iC (if p<q then -1 else if q<p then 1 else 0))):=by
 have h1:=zMB p;have h2:=zMB q;by_cases c1:p<q
 ·rw [if_pos c1]
  refine zJ Tryz.func105 rfl rfl Tryz.ntmps105 rfl ?_
  repeat (first
   |refine vB [0,3,7,9,10] ?_
   | (refine rG 1 ?_
      refine vA ?_;refine xB Tryz.func117 h1 ?_;refine vA ?_;refine aB ?_)
   | (refine rG 2 ?_
      refine vA ?_;refine xB Tryz.func117 h2 ?_;refine vA ?_;refine aB ?_))
  refine⟨zC 20 [(4,.c (iC (-1)))] [] [],[],Wk.mk [] rfl rfl rfl ?_ trivial,rfl,rfl,aR1⟩
  exact zB
 ·rw[if_neg c1]
  by_cases c2:q<p
  ·rw [if_pos c2]
   refine zJ Tryz.func105 rfl rfl Tryz.ntmps105 rfl ?_
   repeat (first
    |refine vB [0,3,7,9,11,12] ?_
    | (refine rG 1 ?_
       refine vA ?_;refine xB Tryz.func117 h1 ?_;refine vA ?_;refine aB ?_)
    | (refine rG 2 ?_
       refine vA ?_;refine xB Tryz.func117 h2 ?_;refine vA ?_;refine aB ?_))
   refine⟨zC 20 [(4,.c (iC 1))] [] [],[],Wk.mk [] rfl rfl rfl ?_ trivial,rfl,rfl,aR1⟩
   exact zB
  ·rw [if_neg c2]
   refine zJ Tryz.func105 rfl rfl Tryz.ntmps105 rfl ?_
   repeat (first
    |refine vB [0,3,7,9,11,13] ?_
    | (refine rG 1 ?_
       refine vA ?_;refine xB Tryz.func117 h1 ?_;refine vA ?_;refine aB ?_)
    | (refine rG 2 ?_
       refine vA ?_;refine xB Tryz.func117 h2 ?_;refine vA ?_;refine aB ?_))
   refine⟨zC 20 [(4,.c (iC 0))] [] [],[],Wk.mk [] rfl rfl rfl ?_ trivial,rfl,rfl,aR1⟩
   exact zB
theorem zEp(p q:Int×Int)(hp:zHc p)(hq:zHc q):ACalls Tryz.prog 104 [.ag (moC p),.ag (moC q)] (.c (iC (zDW p q))):=by
 obtain⟨p1,p2⟩:=hp
 obtain⟨q1,q2⟩:=hq
 have a1:=zGA p.1 xD;have a2:=zGA p.2 xD;have a3:=zGA q.1 xD;have a4:=zGA q.2 xD;have hC:=zOH (zDV p) (zDV q);refine zJ Tryz.func104 rfl rfl Tryz.ntmps104 rfl ?_
 repeat (first
  |refine vB [0] ?_
  |(refine AWp.draw (id:=1) zK ?_;refine xE2 ?_;refine xB Tryz.func106 a1 ?_;refine xE2 ?_;refine xB Tryz.func106 a2 ?_;refine xE3 ?_;refine xB Tryz.func106 a3 ?_;refine xE2 ?_;refine xB Tryz.func106 a4 ?_;refine vA ?_;refine xB Tryz.func105 hC ?_;refine vA ?_;refine aB ⟨by kernel_rfl,?_⟩))
 refine⟨zC 20 [(4,.c (iC (zDW p q)))] [] [],[],Wk.mk [] rfl rfl rfl ?_ trivial,rfl,rfl,aR1⟩
 exact zB
theorem zNZ{L:List (Int×Int)}{a b:Nat}(ha:a<L.length)(hb:b<L.length)(k:Nat):(swp moZ L a b).getD k moZ=if k=b then L.getD a moZ else if k=a then L.getD b moZ else L.getD k moZ:=by
 unfold swp;by_cases h1:k=b
 ·subst h1
  rw[if_pos rfl,List.getD_eq_getElem?_getD,List.getElem?_set_self (by simpa using hb)]
  rfl
 ·rw[if_neg h1,List.getD_eq_getElem?_getD,List.getElem?_set_ne (Ne.symm h1)]
  by_cases h2:k=a
  ·subst h2
   rw[if_pos rfl,List.getElem?_set_self ha]
   rfl
  ·rw[if_neg h2,List.getElem?_set_ne (Ne.symm h2),←List.getD_eq_getElem?_getD]
theorem zGe{L:List (Int×Int)}{a b:Nat}(ha:a<L.length)(hb:b<L.length)(h:Oks L):Oks (swp moZ L a b):=fun k=>by
 rw[zNZ ha hb]
 split
 ·exact h a
 ·split
  ·exact h b
  ·exact h k
abbrev mvB(L:List (Int×Int)):AB:=⟨true,L.length,2,159,zS moC moZ L⟩
theorem zAh(p:Int×Int):(moC p).all zM=true:=rfl
theorem zHn{L:List (Int×Int)}{a b:Nat}(ha:a<L.length)(hb:b<L.length):∀k,k<L.length→∀j,j<2→zAw (zAw (zS moC moZ L) a 0 2 (moC (L.getD b moZ))) b 0 2 (moC (L.getD a moZ)) k j=zS moC moZ (swp moZ L a b) k j∧zM (zAw (zAw (zS moC moZ L) a 0 2 (moC (L.getD b moZ))) b 0 2 (moC (L.getD a moZ)) k j)=true:=fun k hk j hj=>by
 have e:zAw (zAw (zS moC moZ L) a 0 2 (moC (L.getD b moZ))) b 0 2 (moC (L.getD a moZ)) k j=zS moC moZ (swp moZ L a b) k j:=by
  have hjb:(Nat.ble 0 j && Nat.blt j (0+2))=true:=by rw[Nat.ble_eq.mpr (Nat.zero_le _),Nat.blt_eq.mpr xD];rfl
  unfold zAw;rw[hjb,Bool.and_true,Bool.and_true,Nat.sub_zero];unfold zS;rw[zNZ ha hb];by_cases h1:k=b
  ·subst h1
   rw[Nat.beq_refl,if_pos rfl];rfl
  ·rw[show Nat.beq k b=false from Bool.eq_false_iff.2 fun h=>h1 (Nat.eq_of_beq_eq_true h),if_neg h1]
   by_cases h2:k=a
   ·subst h2
    rw[Nat.beq_refl,if_pos rfl];rfl
   ·rw[show Nat.beq k a=false from Bool.eq_false_iff.2 fun h=>h2 (Nat.eq_of_beq_eq_true h),if_neg h2];rfl
 exact⟨e,by rw[e];exact zL zAh _ k j⟩
theorem zEy:zHc moZ:=⟨⟨by decide,by decide⟩,by decide,by decide⟩
abbrev zBX(C:Nat→CV):CV:=.fn 104 0 C
theorem zMw(a:Nat):∀(j:Nat) (L:List (Int×Int)),(zCk moZ zV a j L).length=L.length
 |0,L=>rfl
 | j+1,L=>by
   unfold zCk
   split
   ·rw[zMw a j,zDp]
   ·rfl
theorem zMx(a:Nat):∀(j:Nat) (L:List (Int×Int)),j<L.length→Oks L→Oks (zCk moZ zV a j L)
 |0,L,_,h=>h
 | j+1,L,hj,h=>by
   unfold zCk
   split
   ·exact zMx a j _ (by rw[zDp];omega) (zGe hj xD h)
   ·exact h
theorem zG3(a:Nat)(L:List (Int×Int)):∀k,(zCu moZ zV a k L).length=L.length
 |0=>rfl
 |k+1=>by unfold zCu;rw[zMw,zG3 a L k]
theorem zI0(a:Nat)(L:List (Int×Int))(h:Oks L):∀k,a+k<L.length→Oks (zCu moZ zV a k L)
 |0,_=>h
 |k+1,hk=>by unfold zCu;exact zMx a _ _ (by rw[zG3];omega) (zI0 a L h k xD)
theorem zGu{S:St}{ren:List (Nat×Option Nat)}{n m sz:Nat}{ty:TypeId}{F G:Nat→Nat→CV}(hh:S.h 1000=some ⟨true,n,sz,ty,F⟩)(hm:m=n)(hc:∀k,k<n→∀j,j<sz→F k j=G k j∧zM (F k j)=true):HeapOk S ren 1000 ⟨true,m,sz,ty,G⟩:=by
 subst hm;exact zAo rfl hh hc
theorem zMA(L:List (Int×Int))(a b:Nat)(C:Nat→CV)(hb:b≤L.length)(ha:a≤b)(hn:L.length≤1000)(hL:Oks L):
 HCalls Tryz.prog 122 [.c (.ow 1000),.c (iC a),.c (iC b),.c (zBX C)] [(1000,mvB L)] (.tu []) [(1000,mvB (ins moZ zV a b L))]:=by
 refine zDf Tryz.func122 rfl rfl Tryz.ntmps122 rfl rfl (fun p hp=>by cases hp with|head=>exact fun k j _ _=>zL zAh _ k j|tail _ h=>cases h) ?_;refine vB [0] ?_;refine AWp.round (fun k:Nat=>mkL 53 1 [(0,.c (.ow 1000)),(1,.c (iC a)),(2,.c (iC b)),(3,.c (zBX C)),(8,.c (iC ((a:Int)+1+k)))] [(1000,mvB (zCu moZ zV a k L))] [])
  (fun k=>k≤b-(a+1)) (fun k=>b-(a+1)-k) 0 (Nat.zero_le _) ?_ (fun k hk=> ?_)
 ·refine zQ [] rfl rfl rfl rfl rfl ?_ ?_
  ·exact zAH
  ·exact⟨zAo rfl rfl (fun i _ j _=>⟨rfl,zL zAh _ i j⟩),trivial⟩
 ·by_cases hlt:k<b-(a+1)
  ·obtain⟨Lk,hLk⟩:∃Lk,zCu moZ zV a k L=Lk:=⟨_,rfl⟩
   have hkl:Lk.length=L.length:=by rw[←hLk];exact zG3 a L k
   have hko:Oks Lk:=by rw[←hLk];exact zI0 a L hL k xD
   have hnext:zCu moZ zV a (k+1) L=zCk moZ zV a (a+1+k) Lk:=by rw[←hLk];rfl
   rw[hLk];refine vB [1,3] ?_;refine AWp.round (fun t:Nat×List (Int×Int)=>mkL 53 1 [(0,.c (.ow 1000)),(1,.c (iC a)),(2,.c (iC b)),(3,.c (zBX C)),(8,.c (iC ((a:Int)+1+k))),(9,.c (iC t.1))] [(1000,mvB t.2)] [])
    (fun t=>t.1≤a+1+k∧t.2.length=L.length∧Oks t.2∧zCk moZ zV a t.1 t.2=zCk moZ zV a (a+1+k) Lk) (fun t=>t.1) (a+1+k,Lk) ⟨Nat.le_refl _,hkl,hko,rfl⟩ ?_ (fun t ht=> ?_)
   ·refine zQ [] rfl rfl rfl rfl rfl ?_ ?_
    ·exact zAH
    ·exact⟨zAo rfl rfl (fun i _ j _=>⟨rfl,zL zAh _ i j⟩),trivial⟩
   ·obtain⟨j,M⟩:=t
    obtain⟨hj,hM,hO,hI⟩:=ht
    dsimp only at hj hM hO hI;dsimp only;by_cases hja:a<j
    ·obtain⟨i,rfl⟩:∃i,j=i+1:=⟨j-1,by omega⟩
     have hc:=zEp (M.getD (i+1) moZ) (M.getD i moZ) (hO _) (hO _);by_cases hl:zV (M.getD (i+1) moZ) (M.getD i moZ)=true
     ·have hl':=mvCmp_lt.1 hl
      have hI':zCk moZ zV a i (swp moZ M (i+1) i)=zCk moZ zV a (a+1+k) Lk:=by
       rw[←hI];show _=(if a<i+1∧zV (M.getD (i+1) moZ) (M.getD i moZ)=true then zCk moZ zV a i (swp moZ M (i+1) i)else M);rw[if_pos ⟨hja,hl⟩]
      repeat (first
       |refine vB [5] ?_
       |(refine AWp.draw (id:=4) zK ?_;refine xE7 ?_;refine zI (zH (k:=i+1) zA) ?_;refine xE4 ?_;refine zI (zH (k:=i) zA) ?_;refine vA ?_;refine zBW rfl rfl rfl rfl rfl Tryz.func104 rfl xC (hc) ?_;refine xE2 ?_;refine aB ⟨by kernel_rfl,?_⟩)
       |(refine AWp.draw (id:=6) zK ?_;refine xE8 ?_;refine zI (zH (k:=i) zA) ?_;refine xE3 ?_;refine zI (zH (k:=i+1) zA) ?_;refine vA ?_;refine zI (zH (k:=i+1) zA) ?_;refine vA ?_;refine zI (zH (k:=i) zA) ?_;refine vA ?_;refine aB ⟨by kernel_rfl,?_⟩))
      refine⟨(i,swp moZ M (i+1) i),⟨by dsimp only;omega,by dsimp only;rw[zDp];exact hM,zGe xD xD hO,hI'⟩,zQ [] rfl rfl rfl rfl rfl ?_ ?_,by dsimp only;omega⟩
      ·exact zAH
      ·exact⟨zGu rfl (zDp moZ) (zHn xD xD),trivial⟩
     ·have hl':¬zDW (M.getD (i+1) moZ) (M.getD i moZ)<0:=fun h=>hl (mvCmp_lt.2 h)
      have hI':M=zCu moZ zV a (k+1) L:=by
       rw[hnext,←hI];show _=(if a<i+1∧zV (M.getD (i+1) moZ) (M.getD i moZ)=true then zCk moZ zV a i (swp moZ M (i+1) i)else M);rw[if_neg fun h=>hl h.2]
      repeat (first
       |refine vB [2] ?_
       |(refine AWp.draw (id:=4) zK ?_;refine xE7 ?_;refine zI (zH (k:=i+1) zA) ?_;refine xE4 ?_;refine zI (zH (k:=i) zA) ?_;refine vA ?_;refine zBW rfl rfl rfl rfl rfl Tryz.func104 rfl xC (hc) ?_;refine xE2 ?_;refine aB ⟨by kernel_rfl,?_⟩))
      refine⟨k+1,by omega,?_,by omega⟩
      rw[←hI'];refine zQ [] rfl rfl rfl rfl rfl ?_ ?_
      ·exact zAH
      ·exact⟨zAo rfl rfl (fun i _ j _=>⟨rfl,zL zAh _ i j⟩),trivial⟩
    ·have hI':M=zCu moZ zV a (k+1) L:=by
      rw[hnext,←hI]
      cases j with
      |zero=>rfl
      | succ i=>
        show _=(if a<i+1∧zV (M.getD (i+1) moZ) (M.getD i moZ)=true then zCk moZ zV a i (swp moZ M (i+1) i)else M);rw[if_neg fun h=>hja h.1]
     have hc:=zEp moZ moZ zEy zEy;refine vB [2,4] ?_
     refine⟨k+1,by omega,?_,by omega⟩
     rw[←hI'];refine zQ [] rfl rfl rfl rfl rfl ?_ ?_
     ·exact zAH
     ·exact⟨zAo rfl rfl (fun i _ j _=>⟨rfl,zL zAh _ i j⟩),trivial⟩
  ·have he:ins moZ zV a b L=zCu moZ zV a k L:=by unfold ins;rw[show k=b-(a+1) by omega]
   rw[he];refine vB [1] ?_
   refine⟨mkL 53 1 [] [(1000,mvB (zCu moZ zV a k L))] [],[],zQ [] rfl rfl rfl rfl rfl trivial ?_,rfl,rfl,ARets.no⟩
   exact⟨zAo rfl rfl (fun i _ j _=>⟨rfl,zL zAh _ i j⟩),trivial⟩
theorem zC7(a b:Nat)(L:List (Int×Int)):∀n,(swR moZ a b n L).length=L.length
 |0=>rfl
 |n+1=>by unfold swR;rw[zDp,zC7 a b L n]
theorem zHy{a b:Nat}{L:List (Int×Int)}(h:Oks L):∀n,a+n≤L.length→b+n≤L.length→Oks (swR moZ a b n L)
 |0,_,_=>h
 |n+1,h1,h2=>by unfold swR;exact zGe (by rw[zC7];omega) (by rw[zC7];omega) (zHy h n xD xD)
theorem zJM(L:List (Int×Int))(a b n:Nat)(C:Nat→CV)(ha:a+n≤L.length)(hb:b+n≤L.length)(hn:L.length≤1000):
 HCalls Tryz.prog 126 [.c (.ow 1000),.c (iC a),.c (iC b),.c (iC n),.c (zBX C)] [(1000,mvB L)] (.tu []) [(1000,mvB (swR moZ a b n L))]:=by
 refine zDf Tryz.func126 rfl rfl Tryz.ntmps126 rfl rfl (fun p hp=>by cases hp with|head=>exact fun k j _ _=>zL zAh _ k j|tail _ h=>cases h) ?_;refine vB [0] ?_;refine AWp.round (fun i:Nat=>mkL 38 1 [(0,.c (.ow 1000)),(1,.c (iC a)),(2,.c (iC b)),(3,.c (iC n)),(10,.c (iC i))] [(1000,mvB (swR moZ a b i L))] [])
  (fun i=>i≤n) (fun i=>n-i) 0 (Nat.zero_le _) ?_ (fun i hi=> ?_)
 ·refine zQ [] rfl rfl rfl rfl rfl ?_ ?_
  ·exact zAH
  ·exact⟨zAo rfl rfl (fun i _ j _=>⟨rfl,zL zAh _ i j⟩),trivial⟩
 ·by_cases hlt:i<n
  ·obtain⟨M,hM⟩:∃M,swR moZ a b i L=M:=⟨_,rfl⟩
   have hml:M.length=L.length:=by rw[←hM];exact zC7 a b L i
   have hnext:swR moZ a b (i+1) L=swp moZ M (a+i) (b+i):=by rw[←hM];rfl
   rw[hM]
   repeat (first
    |refine vB [1,2] ?_
    |(refine AWp.draw (id:=3) zK ?_;refine zHE ?_;refine zI (zH (k:=b+i) zA) ?_;refine xE5 ?_;refine zI (zH (k:=a+i) zA) ?_;refine vA ?_;refine zI (zH (k:=a+i) zA) ?_;refine vA ?_;refine zI (zH (k:=b+i) zA) ?_;refine vA ?_;refine aB ⟨by kernel_rfl,?_⟩))
   refine⟨i+1,by omega,?_,by omega⟩
   rw[hnext];refine zQ [] rfl rfl rfl rfl rfl ?_ ?_
   ·exact zAH
   ·exact⟨zGu rfl (zDp moZ) (zHn xD xD),trivial⟩
  ·obtain rfl:i=n:=by omega
   refine vB [1] ?_
   refine⟨mkL 38 1 [] [(1000,mvB (swR moZ a b i L))] [],[],zQ [] rfl rfl rfl rfl rfl trivial ?_,rfl,rfl,ARets.no⟩
   exact⟨zAo rfl rfl (fun i _ j _=>⟨rfl,zL zAh _ i j⟩),trivial⟩
theorem zF6(m:Nat):∀(f i j:Nat) (L:List (Int×Int)),(rot moZ m f i j L).length=L.length
 |0,_,_,_=>rfl
 | f+1,i,j,L=>by
   unfold rot
   split
   ·exact zC7 _ _ _ _
   ·split
    ·rw[zF6 m f,zC7]
    ·rw[zF6 m f,zC7]
theorem zHm(m:Nat):∀(f i j:Nat) (L:List (Int×Int)),i≤m→m+j≤L.length→Oks L→Oks (rot moZ m f i j L)
 |0,_,_,_,_,_,h=>h
 | f+1,i,j,L,h1,h2,h=>by
   unfold rot
   split
   ·exact zHy h _ xD xD
   ·split
    ·exact zHm m f _ _ _ xD (by rw[zC7];omega) (zHy h _ xD xD)
    ·exact zHm m f _ _ _ xD (by rw[zC7];omega) (zHy h _ xD xD)
theorem zRP(L:List (Int×Int))(a m b:Nat)(C:Nat→CV)(h1:a<m)(h2:m<b)(hb:b≤L.length)(hn:L.length≤1000):
 HCalls Tryz.prog 125 [.c (.ow 1000),.c (iC a),.c (iC m),.c (iC b),.c (zBX C)] [(1000,mvB L)] (.tu []) [(1000,mvB (rot moZ m (b-a) (m-a) (b-m) L))]:=by
 refine zDf Tryz.func125 rfl rfl Tryz.ntmps125 rfl rfl (fun p hp=>by cases hp with|head=>exact fun k j _ _=>zL zAh _ k j|tail _ h=>cases h) ?_;refine vB [0,1] ?_;refine AWp.round (fun t:Nat×Nat×Nat×List (Int×Int)=>mkL 58 1 [(0,.c (.ow 1000)),(2,.c (iC m)),(4,.c (zBX C)),(10,.c (iC t.2.1)),(11,.c (iC t.2.2.1))] [(1000,mvB t.2.2.2)] [])
  (fun t=>0<t.2.1∧0<t.2.2.1∧t.2.1≤m∧m+t.2.2.1≤L.length∧t.2.1+t.2.2.1≤t.1∧t.2.2.2.length=L.length∧rot moZ m t.1 t.2.1 t.2.2.1 t.2.2.2=rot moZ m (b-a) (m-a) (b-m) L) (fun t=>t.1) (b-a,m-a,b-m,L)
  ⟨by dsimp only;omega,by dsimp only;omega,by dsimp only;omega,by dsimp only;omega,by dsimp only;omega,rfl,rfl⟩ ?_ (fun t ht=> ?_)
 ·refine zQ [] rfl rfl rfl rfl rfl ?_ ?_
  ·exact zAH
  ·exact⟨zAo rfl rfl (fun i _ j _=>⟨rfl,zL zAh _ i j⟩),trivial⟩
 ·obtain⟨f,i,j,M⟩:=t
  obtain⟨hi,hj,him,hjm,hf,hM,hR⟩:=ht
  dsimp only at hi hj him hjm hf hM hR;dsimp only
  obtain⟨g,rfl⟩:∃g,f=g+1:=⟨f-1,by omega⟩
  have hR':rot moZ m (g+1) i j M=if i=j then swR moZ (m-i) m i M else if j<i then rot moZ m g (i-j) j (swR moZ (m-i) m j M)else rot moZ m g i (j-i) (swR moZ (m-i) (m+j-i) i M):=rfl
  by_cases hij:i=j
  ·rw [if_pos hij]at hR'
   rw[←hR,hR'];have hS:=zJM M (m-i) m i (fun i=>zAO [1000] (C i)) xD xD xD;rw[show(((m-i:Nat):Int))=(m:Int)-i by omega]at hS;have hp:0<M.length:=by omega
   repeat (first
    |refine vB [2] ?_
    | (refine rG 8 ?_
       refine xE7 ?_;refine zAG [1000] [mvB M] [mvB (swR moZ (m-i) m i M)] rfl rfl rfl Tryz.func126 rfl xC (LendOk.row rfl hp (fun i _ j _=>⟨rfl,zL zAh _ i j⟩) trivial) rfl (LendImm.row (fun i _ j _=>zL zAh _ i j) trivial) (hS) ?_;refine aB ?_))
   refine⟨mkL 58 1 [] [(1000,mvB (swR moZ (m-i) m i M))] [],[],zQ [] rfl rfl rfl rfl rfl trivial ?_,rfl,rfl,ARets.no⟩
   exact⟨zAo rfl rfl (fun i _ j _=>⟨rfl,zL zAh _ i j⟩),trivial⟩
  ·rw[if_neg hij]at hR'
   have hp:0<M.length:=by omega
   by_cases hlt:j<i
   ·rw [if_pos hlt]at hR'
    have hS:=zJM M (m-i) m j (fun i=>zAO [1000] (C i)) xD xD xD;rw[show(((m-i:Nat):Int))=(m:Int)-i by omega]at hS
    repeat (first
     |refine vB [2,3,5] ?_
     | (refine rG 4 ?_
        refine xE7 ?_;refine zAG [1000] [mvB M] [mvB (swR moZ (m-i) m j M)] rfl rfl rfl Tryz.func126 rfl xC (LendOk.row rfl hp (fun i _ j _=>⟨rfl,zL zAh _ i j⟩) trivial) rfl (LendImm.row (fun i _ j _=>zL zAh _ i j) trivial) (hS) ?_;refine aB ?_))
    refine⟨(g,i-j,j,swR moZ (m-i) m j M),⟨by dsimp only;omega,hj,by dsimp only;omega,hjm,by dsimp only;omega,by dsimp only;rw[zC7];exact hM,by dsimp only;rw[←hR'];exact hR⟩,zQ [] rfl rfl rfl rfl rfl ?_ ?_,by dsimp only;omega⟩
    ·exact zAH
    ·exact⟨zAo rfl rfl (fun i _ j _=>⟨rfl,zL zAh _ i j⟩),trivial⟩
   ·rw [if_neg hlt]at hR'
    have hS:=zJM M (m-i) (m+j-i) i (fun i=>zAO [1000] (C i)) xD xD xD;rw[show(((m-i:Nat):Int))=(m:Int)-i by omega,show(((m+j-i:Nat):Int))=(m:Int)+j-i by omega]at hS
    repeat (first
     |refine vB [2,3,7] ?_
     | (refine rG 6 ?_
        refine zCn ?_;refine zAG [1000] [mvB M] [mvB (swR moZ (m-i) (m+j-i) i M)] rfl rfl rfl Tryz.func126 rfl xC (LendOk.row rfl hp (fun i _ j _=>⟨rfl,zL zAh _ i j⟩) trivial) rfl (LendImm.row (fun i _ j _=>zL zAh _ i j) trivial) (hS) ?_;refine aB ?_))
    refine⟨(g,i,j-i,swR moZ (m-i) (m+j-i) i M),⟨hi,by dsimp only;omega,him,by dsimp only;omega,by dsimp only;omega,by dsimp only;rw[zC7];exact hM,by dsimp only;rw[←hR'];exact hR⟩,zQ [] rfl rfl rfl rfl rfl ?_ ?_,by dsimp only;omega⟩
    ·exact zAH
    ·exact⟨zAo rfl rfl (fun i _ j _=>⟨rfl,zL zAh _ i j⟩),trivial⟩
theorem zEn(t:Nat→Bool):∀(f i j:Nat),i≤j→i≤bs t f i j∧bs t f i j≤j
 |0,i,j,h=>⟨Nat.le_refl _,h⟩
 | f+1,i,j,h=>by
   unfold bs
   split
   ·split
    ·have:=zEn t f ((i+j)/2+1) j xD;omega
    ·have:=zEn t f i ((i+j)/2) xD;omega
   ·exact⟨Nat.le_refl _,h⟩
theorem zIh{t:Nat→Bool}{f i j:Nat}(h:¬i<j):bs t f i j=i:=by
 cases f with
 |zero=>rfl
 |succ f=>unfold bs;rw[if_neg h]
theorem zGm(a:Nat)(L:List (Int×Int)):∀k,(upK moZ a k L).length=L.length
 |0=>rfl
 |k+1=>by unfold upK;rw[zDp,zGm a L k]
theorem zN7{a:Nat}{L:List (Int×Int)}(h:Oks L):∀k,a+k<L.length→Oks (upK moZ a k L)
 |0,_=>h
 |k+1,hk=>by unfold upK;exact zGe (by rw[zGm];omega) (by rw[zGm];omega) (zN7 h k xD)
theorem zFE(m:Nat)(L:List (Int×Int)):∀k,(dnK moZ m k L).length=L.length
 |0=>rfl
 |k+1=>by unfold dnK;rw[zDp,zFE m L k]
theorem zL1{m:Nat}{L:List (Int×Int)}(h:Oks L)(hm:m<L.length):∀k,Oks (dnK moZ m k L)
 |0=>h
 |k+1=>by unfold dnK;exact zGe (by rw[zFE];omega) (by rw[zFE];omega) (zL1 h hm k)
theorem zE5:∀(f a m b:Nat) (L:List (Int×Int)),(sym moZ zV f a m b L).length=L.length
 |0,_,_,_,_=>rfl
 | f +1,a,m,b,L=>by
   unfold sym
   split
   ·exact zGm _ _ _
   ·split
    ·exact zFE _ _ _
    ·dsimp only
     have h1:∀(c:Prop) [Decidable c] (x y z:Nat) (M:List (Int×Int)),(if c then rot moZ m x y z M else M).length=M.length:=fun c _ x y z M=>by split<;>first|rfl|exact zF6 _ _ _ _ _
     have h2:∀(c:Prop) [Decidable c] (x y z:Nat) (M:List (Int×Int)),(if c then sym moZ zV f x y z M else M).length=M.length:=fun c _ x y z M=>by split<;>first|rfl|exact zE5 f _ _ _ _
     rw[h2,h2,h1]
theorem zGf:∀(f a m b:Nat) (L:List (Int×Int)),a<m→m<b→b≤L.length→Oks L→Oks (sym moZ zV f a m b L)
 |0,_,_,_,_,_,_,_,h=>h
 | f +1,a,m,b,L,h1,h2,h3,h=>by
   unfold sym
   split
   ·have:=zEn (fun h=>zV (L.getD h moZ) (L.getD a moZ)) (b-m) m b xD
    exact zN7 h _ xD
   ·split
    ·exact zL1 h xD _
    ·dsimp only
     obtain⟨s0,hs0⟩:∃s0,(if (a+b)/2<m then (a+b)/2+m-b else a)=s0:=⟨_,rfl⟩
     obtain⟨r0,hr0⟩:∃r0,(if (a+b)/2<m then (a+b)/2 else m)=r0:=⟨_,rfl⟩
     rw[hs0,hr0];have hsr:a≤s0∧s0≤r0∧r0≤m∧r0≤(a+b)/2∧(a+b)/2+m-s0≤b:=by
      rw[←hs0,←hr0]
      split<;>omega
     have hb:=zEn (fun c=> !(zV (L.getD ((a+b)/2+m-1-c) moZ) (L.getD c moZ))) (r0-s0) s0 r0 hsr.2.1;generalize bs (fun c=> !(zV (L.getD ((a+b)/2+m-1-c) moZ) (L.getD c moZ))) (r0-s0) s0 r0=s at *
     obtain⟨L1,hL1⟩:∃L1,(if s<m∧m<(a+b)/2+m-s then rot moZ m ((a+b)/2+m-s-s) (m-s) ((a+b)/2+m-s-m) L else L)=L1:=⟨_,rfl⟩
     have hL1o:Oks L1∧L1.length=L.length:=by
      rw[←hL1]
      split
      ·exact⟨zHm m _ _ _ _ xD xD h,zF6 _ _ _ _ _⟩
      ·exact⟨h,rfl⟩
     rw[hL1]
     obtain⟨L2,hL2⟩:∃L2,(if a<s∧s<(a+b)/2 then sym moZ zV f a s ((a+b)/2) L1 else L1)=L2:=⟨_,rfl⟩
     have hL2o:Oks L2∧L2.length=L.length:=by
      rw[←hL2]
      split
      ·rename_i hc;exact⟨zGf f _ _ _ _ hc.1 hc.2 (by rw[hL1o.2];omega) hL1o.1,by rw[zE5];exact hL1o.2⟩
      ·exact hL1o
     rw[hL2]
     split
     ·rename_i hc;exact zGf f _ _ _ _ hc.1 hc.2 (by rw[hL2o.2];omega) hL2o.1
     ·exact hL2o.1
theorem zG1{i j:Nat}(h:i+j≤100000):IntKind.u64.wrap ((i:Int)+j)=(i:Int)+j:=by rw[IntKind.wrap_u64];omega
theorem zG0{i j:Nat}(h:i+j≤100000):IntKind.i64.wrap (((i:Int)+j)/2)=(((i+j)/2:Nat):Int):=by rw[IntKind.wrap_i64];omega
abbrev zD5(a m b:Nat)(C:Nat→CV):List (Nat×AV):= [(0,.c (.ow 1000)),(1,.c (iC a)),(2,.c (iC m)),(3,.c (iC b)),(4,.c (zBX C))]
theorem zSn(f:Nat)(L:List (Int×Int))(a m b:Nat)(C:Nat→CV)(h1:a<m)(h2:m<b)(hb:b≤L.length)(hn:L.length≤1000)(hL:Oks L)(hc:m-a=1):
 HCalls Tryz.prog 123 [.c (.ow 1000),.c (iC a),.c (iC m),.c (iC b),.c (zBX C)] [(1000,mvB L)] (.tu []) [(1000,mvB (sym moZ zV (f+1) a m b L))]:=by
 refine zDf Tryz.func123 rfl rfl Tryz.ntmps123 rfl rfl (fun p hp=>by cases hp with|head=>exact fun k j _ _=>zL zAh _ k j|tail _ h=>cases h) ?_
 obtain⟨T,hT⟩:∃T:Nat→Bool,T=fun h=>zV (L.getD h moZ) (L.getD a moZ):=⟨_,rfl⟩
 have hs:sym moZ zV (f+1) a m b L=upK moZ a (bs T (b-m) m b-1-a) L:=by unfold sym;rw[if_pos hc,hT]
 obtain⟨s,hse⟩:∃s,bs T (b-m) m b=s:=⟨_,rfl⟩
 have hsb:=zEn T (b-m) m b xD;rw[hs,hse];rw[hse]at hsb
 repeat (first
  |refine vB [0,1,2,3,6,7,8,9,10,11,12,13,14,15,18,19,20,21,22,23,25,26,27,28,29,30,31,32,33,36,37,38,39,41,43] ?_
  | (refine rG 4 ?_
     refine xE3 ?_
     fail "convert"
     refine qr4 zAv ?_
     fail "convert"
     refine vA ?_;refine aB ?_)
  | (refine rG 16 ?_
     refine xE3 ?_
     fail "convert"
     refine qr4 zAv ?_
     fail "convert"
     refine vA ?_;refine aB ?_)
  | (refine rG 24 ?_
     refine xE3 ?_
     fail "convert"
     refine qr4 zAv ?_
     fail "convert"
     refine vA ?_;refine aB ?_)
  | (refine rG 34 ?_
     refine xE3 ?_
     fail "convert"
     refine qr4 zAv ?_
     fail "convert"
     refine vA ?_;refine aB ?_))
 refine AWp.round (fun t:Nat×Nat×Nat=>mkL 220 1 (zD5 a m b C++ [(10,.c (iC t.2.1)),(11,.c (iC t.2.2))]) [(1000,mvB L)] [])
  (fun t=>m≤t.2.1∧t.2.1≤t.2.2∧t.2.2≤b∧t.2.2-t.2.1≤t.1∧bs T t.1 t.2.1 t.2.2=s) (fun t=>t.1) (b-m,m,b) ⟨Nat.le_refl _,by dsimp only;omega,Nat.le_refl _,Nat.le_refl _,hse⟩ ?_ (fun t ht=> ?_)
 ·refine zQ [] rfl rfl rfl rfl rfl ?_ ?_
  ·exact zAH
  ·exact⟨zAo rfl rfl (fun i _ j _=>⟨rfl,zL zAh _ i j⟩),trivial⟩
 ·obtain ⟨g,i,j⟩:=t
  obtain⟨q1,q2,q3,q4,q5⟩:=ht
  dsimp only at q1 q2 q3 q4 q5;dsimp only;by_cases hij:i<j
  ·obtain⟨g,rfl⟩:∃k,g=k+1:=⟨g-1,by omega⟩
   have hu:=zG1 (i:=i) (j:=j) xD;have hi:=zG0 (i:=i) (j:=j) xD
   obtain⟨h,hh⟩:∃h,(i+j)/2=h:=⟨_,rfl⟩
   rw[hh]at hi;have hhb:i≤h∧h<j:=by omega
   have hcm:=zEp (L.getD h moZ) (L.getD a moZ) (hL _) (hL _);have q5':(if T h=true then bs T g (h+1) j else bs T g i h)=s:=by
    rw[←q5,←hh];show _=if i<j then (if T ((i+j)/2)=true then bs T g ((i+j)/2+1) j else bs T g i ((i+j)/2))else i
    rw[if_pos hij]
   by_cases hl:zV (L.getD h moZ) (L.getD a moZ)=true
   ·have hl':=mvCmp_lt.1 hl
    rw[if_pos (by rw[hT];exact hl)]at q5'
    repeat (first
     |refine vB [0,1,2,3,6,7,8,9,10,11,12,13,14,15,18,19,20,21,22,23,25,26,27,28,29,30,31,32,33,36,37,38,39,41,43] ?_
     | (refine rG 4 ?_
        refine xE3 ?_;refine zCf (hu) xC Tryz.underlying185 rfl rfl rfl ?_;refine qr4 zAv ?_;refine zCf (hi) xC Tryz.underlying3 rfl rfl rfl ?_;refine vA ?_;refine aB ?_)
     |(refine AWp.draw (id:=5) zK ?_;refine xE3 ?_;(first|refine zG (aP (k:=h) zA) ?_|refine zI (zH (k:=h) zA) ?_);refine xE3 ?_;(first|refine zG (aP (k:=a) zA) ?_|refine zI (zH (k:=a) zA) ?_);refine vA ?_;refine zBW rfl rfl rfl rfl rfl Tryz.func104 rfl xC (hcm) ?_;refine vA ?_;refine aB ⟨by kernel_rfl,?_⟩)
     | (refine rG 16 ?_
        refine xE3 ?_
        fail "convert"
        refine qr4 zAv ?_
        fail "convert"
        refine vA ?_;refine aB ?_)
     |(refine AWp.draw (id:=17) zK ?_;refine xE9 ?_;refine zBW rfl rfl rfl rfl rfl Tryz.func104 rfl xC (hcm) ?_;refine xE2 ?_;refine aB ⟨by kernel_rfl,?_⟩)
     | (refine rG 24 ?_
        refine xE3 ?_
        fail "convert"
        refine qr4 zAv ?_
        fail "convert"
        refine vA ?_;refine aB ?_)
     | (refine rG 34 ?_
        refine xE3 ?_
        fail "convert"
        refine qr4 zAv ?_
        fail "convert"
        refine vA ?_;refine aB ?_)
     |(refine AWp.draw (id:=35) zK ?_;refine zCn ?_;refine zBW rfl rfl rfl rfl rfl Tryz.func104 rfl xC (hcm) ?_;refine xE2 ?_;refine aB ⟨by kernel_rfl,?_⟩))
    refine⟨(g,h+1,j),⟨by dsimp only;omega,by dsimp only;omega,q3,by dsimp only;omega,q5'⟩,zQ [] rfl rfl rfl rfl rfl ?_ ?_,by dsimp only;omega⟩
    ·exact zAH
    ·exact⟨zAo rfl rfl (fun i _ j _=>⟨rfl,zL zAh _ i j⟩),trivial⟩
   ·have hl':¬zDW (L.getD h moZ) (L.getD a moZ)<0:=fun h=>hl (mvCmp_lt.2 h)
    rw[if_neg (by rw[hT];exact hl)]at q5'
    repeat (first
     |refine vB [0,1,2,3,6,7,8,9,10,11,12,13,14,15,18,19,20,21,22,23,25,26,27,28,29,30,31,32,33,36,37,38,39,41,43] ?_
     | (refine rG 4 ?_
        refine xE3 ?_;refine zCf (hu) xC Tryz.underlying185 rfl rfl rfl ?_;refine qr4 zAv ?_;refine zCf (hi) xC Tryz.underlying3 rfl rfl rfl ?_;refine vA ?_;refine aB ?_)
     |(refine AWp.draw (id:=5) zK ?_;refine xE3 ?_;(first|refine zG (aP (k:=h) zA) ?_|refine zI (zH (k:=h) zA) ?_);refine xE3 ?_;(first|refine zG (aP (k:=a) zA) ?_|refine zI (zH (k:=a) zA) ?_);refine vA ?_;refine zBW rfl rfl rfl rfl rfl Tryz.func104 rfl xC (hcm) ?_;refine vA ?_;refine aB ⟨by kernel_rfl,?_⟩)
     | (refine rG 16 ?_
        refine xE3 ?_
        fail "convert"
        refine qr4 zAv ?_
        fail "convert"
        refine vA ?_;refine aB ?_)
     |(refine AWp.draw (id:=17) zK ?_;refine xE9 ?_;refine zBW rfl rfl rfl rfl rfl Tryz.func104 rfl xC (hcm) ?_;refine xE2 ?_;refine aB ⟨by kernel_rfl,?_⟩)
     | (refine rG 24 ?_
        refine xE3 ?_
        fail "convert"
        refine qr4 zAv ?_
        fail "convert"
        refine vA ?_;refine aB ?_)
     | (refine rG 34 ?_
        refine xE3 ?_
        fail "convert"
        refine qr4 zAv ?_
        fail "convert"
        refine vA ?_;refine aB ?_)
     |(refine AWp.draw (id:=35) zK ?_;refine zCn ?_;refine zBW rfl rfl rfl rfl rfl Tryz.func104 rfl xC (hcm) ?_;refine xE2 ?_;refine aB ⟨by kernel_rfl,?_⟩))
    refine⟨(g,i,h),⟨q1,by dsimp only;omega,by dsimp only;omega,by dsimp only;omega,q5'⟩,zQ [] rfl rfl rfl rfl rfl ?_ ?_,by dsimp only;omega⟩
    ·exact zAH
    ·exact⟨zAo rfl rfl (fun i _ j _=>⟨rfl,zL zAh _ i j⟩),trivial⟩
  ·obtain rfl:i=s:=by rw[←q5];exact(zIh hij).symm
   have hcm:=zEp moZ moZ zEy zEy
   repeat (first
    |refine vB [0,1,2,3,6,7,8,9,10,11,12,13,14,15,18,19,20,21,22,23,25,26,27,28,29,30,31,32,33,36,37,38,39,41,43] ?_
    | (refine rG 4 ?_
       refine xE3 ?_
       fail "convert"
       refine qr4 zAv ?_
       fail "convert"
       refine vA ?_;refine aB ?_)
    | (refine rG 16 ?_
       refine xE3 ?_
       fail "convert"
       refine qr4 zAv ?_
       fail "convert"
       refine vA ?_;refine aB ?_)
    | (refine rG 24 ?_
       refine xE3 ?_
       fail "convert"
       refine qr4 zAv ?_
       fail "convert"
       refine vA ?_;refine aB ?_)
    | (refine rG 34 ?_
       refine xE3 ?_
       fail "convert"
       refine qr4 zAv ?_
       fail "convert"
       refine vA ?_;refine aB ?_))
   refine AWp.round (fun k:Nat=>mkL 220 1 (zD5 a m b C++ [(10,.c (iC i)),(13,.c (iC ((a:Int)+k)))]) [(1000,mvB (upK moZ a k L))] [])
    (fun k=>k≤i-1-a) (fun k=>i-1-a-k) 0 (Nat.zero_le _) ?_ (fun k hk=> ?_)
   ·refine zQ [] rfl rfl rfl rfl rfl ?_ ?_
    ·exact zAH
    ·exact⟨zAo rfl rfl (fun i _ j _=>⟨rfl,zL zAh _ i j⟩),trivial⟩
   ·by_cases hlt:k<i-1-a
    ·obtain⟨M,hM⟩:∃M,upK moZ a k L=M:=⟨_,rfl⟩
     have hml:M.length=L.length:=by rw[←hM];exact zGm a L k
     have hnext:upK moZ a (k+1) L=swp moZ M (a+k) (a+k+1):=by rw[←hM];rfl
     rw[hM]
     repeat (first
      |refine vB [0,1,2,3,6,7,8,9,10,12,13,14,15,18,19,20,21,22,23,25,26,27,28,29,30,31,32,33,36,37,38,39,41,43] ?_
      | (refine rG 4 ?_
         refine xE3 ?_
         fail "convert"
         refine qr4 zAv ?_
         fail "convert"
         refine vA ?_;refine aB ?_)
      |(refine AWp.draw (id:=11) zK ?_;refine xE8 ?_;(first|refine zG (aP (k:=a+k+1) zA) ?_|refine zI (zH (k:=a+k+1) zA) ?_);refine xE3 ?_;(first|refine zG (aP (k:=a+k) zA) ?_|refine zI (zH (k:=a+k) zA) ?_);refine vA ?_;(first|refine zG (aP (k:=a+k) zA) ?_|refine zI (zH (k:=a+k) zA) ?_);refine vA ?_;(first|refine zG (aP (k:=a+k+1) zA) ?_|refine zI (zH (k:=a+k+1) zA) ?_);refine vA ?_;refine aB ⟨by kernel_rfl,?_⟩)
      | (refine rG 16 ?_
         refine xE3 ?_
         fail "convert"
         refine qr4 zAv ?_
         fail "convert"
         refine vA ?_;refine aB ?_)
      | (refine rG 24 ?_
         refine xE3 ?_
         fail "convert"
         refine qr4 zAv ?_
         fail "convert"
         refine vA ?_;refine aB ?_)
      | (refine rG 34 ?_
         refine xE3 ?_
         fail "convert"
         refine qr4 zAv ?_
         fail "convert"
         refine vA ?_;refine aB ?_))
     refine⟨k+1,by omega,?_,by omega⟩
     rw[hnext];refine zQ [] rfl rfl rfl rfl rfl ?_ ?_
     ·exact zAH
     ·exact⟨zGu rfl (zDp moZ) (zHn xD xD),trivial⟩
    ·obtain rfl:k=i-1-a:=by omega
     repeat (first
      |refine vB [0,1,2,3,6,7,8,9,10,11,12,13,14,15,18,19,20,21,22,23,25,26,27,28,29,30,31,32,33,36,37,38,39,41,43] ?_
      | (refine rG 4 ?_
         refine xE3 ?_
         fail "convert"
         refine qr4 zAv ?_
         fail "convert"
         refine vA ?_;refine aB ?_)
      | (refine rG 16 ?_
         refine xE3 ?_
         fail "convert"
         refine qr4 zAv ?_
         fail "convert"
         refine vA ?_;refine aB ?_)
      | (refine rG 24 ?_
         refine xE3 ?_
         fail "convert"
         refine qr4 zAv ?_
         fail "convert"
         refine vA ?_;refine aB ?_)
      | (refine rG 34 ?_
         refine xE3 ?_
         fail "convert"
         refine qr4 zAv ?_
         fail "convert"
         refine vA ?_;refine aB ?_))
     refine⟨mkL 220 1 [] [(1000,mvB (upK moZ a (i-1-a) L))] [],[],zQ [] rfl rfl rfl rfl rfl trivial ?_,rfl,rfl,ARets.no⟩
     exact⟨zAo rfl rfl (fun i _ j _=>⟨rfl,zL zAh _ i j⟩),trivial⟩
theorem zSo(f:Nat)(L:List (Int×Int))(a m b:Nat)(C:Nat→CV)(h1:a<m)(h2:m<b)(hb:b≤L.length)(hn:L.length≤1000)(hL:Oks L)(hc0:¬m-a=1)(hc:b-m=1):
 HCalls Tryz.prog 123 [.c (.ow 1000),.c (iC a),.c (iC m),.c (iC b),.c (zBX C)] [(1000,mvB L)] (.tu []) [(1000,mvB (sym moZ zV (f+1) a m b L))]:=by
 refine zDf Tryz.func123 rfl rfl Tryz.ntmps123 rfl rfl (fun p hp=>by cases hp with|head=>exact fun k j _ _=>zL zAh _ k j|tail _ h=>cases h) ?_
 obtain⟨T,hT⟩:∃T:Nat→Bool,T=fun h=> !(zV (L.getD m moZ) (L.getD h moZ)):=⟨_,rfl⟩
 have hs:sym moZ zV (f+1) a m b L=dnK moZ m (m-bs T (m-a) a m) L:=by unfold sym;rw[if_neg hc0,if_pos hc,hT]
 obtain⟨s,hse⟩:∃s,bs T (m-a) a m=s:=⟨_,rfl⟩
 have hsb:=zEn T (m-a) a m xD;rw[hs,hse];rw[hse]at hsb
 repeat (first
  |refine vB [0,1,2,3,6,7,8,9,10,11,12,13,14,15,18,19,20,21,22,23,25,26,27,28,29,30,31,32,33,36,37,38,39,41,43] ?_
  | (refine rG 4 ?_
     refine xE3 ?_
     fail "convert"
     refine qr4 zAv ?_
     fail "convert"
     refine vA ?_;refine aB ?_)
  | (refine rG 16 ?_
     refine xE3 ?_
     fail "convert"
     refine qr4 zAv ?_
     fail "convert"
     refine vA ?_;refine aB ?_)
  | (refine rG 24 ?_
     refine xE3 ?_
     fail "convert"
     refine qr4 zAv ?_
     fail "convert"
     refine vA ?_;refine aB ?_)
  | (refine rG 34 ?_
     refine xE3 ?_
     fail "convert"
     refine qr4 zAv ?_
     fail "convert"
     refine vA ?_;refine aB ?_))
 refine AWp.round (fun t:Nat×Nat×Nat=>mkL 220 1 (zD5 a m b C++ [(14,.c (iC t.2.1)),(15,.c (iC t.2.2))]) [(1000,mvB L)] [])
  (fun t=>a≤t.2.1∧t.2.1≤t.2.2∧t.2.2≤m∧t.2.2-t.2.1≤t.1∧bs T t.1 t.2.1 t.2.2=s) (fun t=>t.1) (m-a,a,m) ⟨Nat.le_refl _,by dsimp only;omega,Nat.le_refl _,Nat.le_refl _,hse⟩ ?_ (fun t ht=> ?_)
 ·refine zQ [] rfl rfl rfl rfl rfl ?_ ?_
  ·exact zAH
  ·exact⟨zAo rfl rfl (fun i _ j _=>⟨rfl,zL zAh _ i j⟩),trivial⟩
 ·obtain ⟨g,i,j⟩:=t
  obtain⟨q1,q2,q3,q4,q5⟩:=ht
  dsimp only at q1 q2 q3 q4 q5;dsimp only;by_cases hij:i<j
  ·obtain⟨g,rfl⟩:∃k,g=k+1:=⟨g-1,by omega⟩
   have hu:=zG1 (i:=i) (j:=j) xD;have hi:=zG0 (i:=i) (j:=j) xD
   obtain⟨h,hh⟩:∃h,(i+j)/2=h:=⟨_,rfl⟩
   rw[hh]at hi;have hhb:i≤h∧h<j:=by omega
   have hcm:=zEp (L.getD m moZ) (L.getD h moZ) (hL _) (hL _);have q5':(if T h=true then bs T g (h+1) j else bs T g i h)=s:=by
    rw[←q5,←hh];show _=if i<j then (if T ((i+j)/2)=true then bs T g ((i+j)/2+1) j else bs T g i ((i+j)/2))else i
    rw[if_pos hij]
   by_cases hl:zV (L.getD m moZ) (L.getD h moZ)=true
   ·have hl':=mvCmp_lt.1 hl
    rw[if_neg (by rw[hT];simp only[hl];decide)]at q5'
    repeat (first
     |refine vB [0,1,2,3,6,7,8,9,10,11,12,13,14,15,18,19,20,21,22,23,25,26,27,28,29,30,31,32,33,36,37,38,39,41,43] ?_
     | (refine rG 4 ?_
        refine xE3 ?_
        fail "convert"
        refine qr4 zAv ?_
        fail "convert"
        refine vA ?_;refine aB ?_)
     |(refine AWp.draw (id:=5) zK ?_;refine xE9 ?_;refine zBW rfl rfl rfl rfl rfl Tryz.func104 rfl xC (hcm) ?_;refine vA ?_;refine aB ⟨by kernel_rfl,?_⟩)
     | (refine rG 16 ?_
        refine xE3 ?_;refine zCf (hu) xC Tryz.underlying185 rfl rfl rfl ?_;refine qr4 zAv ?_;refine zCf (hi) xC Tryz.underlying3 rfl rfl rfl ?_;refine vA ?_;refine aB ?_)
     |(refine AWp.draw (id:=17) zK ?_;refine xE3 ?_;(first|refine zG (aP (k:=m) zA) ?_|refine zI (zH (k:=m) zA) ?_);refine xE3 ?_;(first|refine zG (aP (k:=h) zA) ?_|refine zI (zH (k:=h) zA) ?_);refine vA ?_;refine zBW rfl rfl rfl rfl rfl Tryz.func104 rfl xC (hcm) ?_;refine xE2 ?_;refine aB ⟨by kernel_rfl,?_⟩)
     | (refine rG 24 ?_
        refine xE3 ?_
        fail "convert"
        refine qr4 zAv ?_
        fail "convert"
        refine vA ?_;refine aB ?_)
     | (refine rG 34 ?_
        refine xE3 ?_
        fail "convert"
        refine qr4 zAv ?_
        fail "convert"
        refine vA ?_;refine aB ?_)
     |(refine AWp.draw (id:=35) zK ?_;refine zCn ?_;refine zBW rfl rfl rfl rfl rfl Tryz.func104 rfl xC (hcm) ?_;refine xE2 ?_;refine aB ⟨by kernel_rfl,?_⟩))
    refine⟨(g,i,h),⟨q1,by dsimp only;omega,by dsimp only;omega,by dsimp only;omega,q5'⟩,zQ [] rfl rfl rfl rfl rfl ?_ ?_,by dsimp only;omega⟩
    ·exact zAH
    ·exact⟨zAo rfl rfl (fun i _ j _=>⟨rfl,zL zAh _ i j⟩),trivial⟩
   ·have hl':¬zDW (L.getD m moZ) (L.getD h moZ)<0:=fun h=>hl (mvCmp_lt.2 h)
    rw[if_pos (by rw[hT];simp only[Bool.eq_false_iff.2 hl];decide)]at q5'
    repeat (first
     |refine vB [0,1,2,3,6,7,8,9,10,11,12,13,14,15,18,19,20,21,22,23,25,26,27,28,29,30,31,32,33,36,37,38,39,41,43] ?_
     | (refine rG 4 ?_
        refine xE3 ?_
        fail "convert"
        refine qr4 zAv ?_
        fail "convert"
        refine vA ?_;refine aB ?_)
     |(refine AWp.draw (id:=5) zK ?_;refine xE9 ?_;refine zBW rfl rfl rfl rfl rfl Tryz.func104 rfl xC (hcm) ?_;refine vA ?_;refine aB ⟨by kernel_rfl,?_⟩)
     | (refine rG 16 ?_
        refine xE3 ?_;refine zCf (hu) xC Tryz.underlying185 rfl rfl rfl ?_;refine qr4 zAv ?_;refine zCf (hi) xC Tryz.underlying3 rfl rfl rfl ?_;refine vA ?_;refine aB ?_)
     |(refine AWp.draw (id:=17) zK ?_;refine xE3 ?_;(first|refine zG (aP (k:=m) zA) ?_|refine zI (zH (k:=m) zA) ?_);refine xE3 ?_;(first|refine zG (aP (k:=h) zA) ?_|refine zI (zH (k:=h) zA) ?_);refine vA ?_;refine zBW rfl rfl rfl rfl rfl Tryz.func104 rfl xC (hcm) ?_;refine xE2 ?_;refine aB ⟨by kernel_rfl,?_⟩)
     | (refine rG 24 ?_
        refine xE3 ?_
        fail "convert"
        refine qr4 zAv ?_
        fail "convert"
        refine vA ?_;refine aB ?_)
     | (refine rG 34 ?_
        refine xE3 ?_
        fail "convert"
        refine qr4 zAv ?_
        fail "convert"
        refine vA ?_;refine aB ?_)
     |(refine AWp.draw (id:=35) zK ?_;refine zCn ?_;refine zBW rfl rfl rfl rfl rfl Tryz.func104 rfl xC (hcm) ?_;refine xE2 ?_;refine aB ⟨by kernel_rfl,?_⟩))
    refine⟨(g,h+1,j),⟨by dsimp only;omega,by dsimp only;omega,q3,by dsimp only;omega,q5'⟩,zQ [] rfl rfl rfl rfl rfl ?_ ?_,by dsimp only;omega⟩
    ·exact zAH
    ·exact⟨zAo rfl rfl (fun i _ j _=>⟨rfl,zL zAh _ i j⟩),trivial⟩
  ·obtain rfl:i=s:=by rw[←q5];exact(zIh hij).symm
   have hcm:=zEp moZ moZ zEy zEy
   repeat (first
    |refine vB [0,1,2,3,6,7,8,9,10,11,12,13,14,15,18,19,20,21,22,23,25,26,27,28,29,30,31,32,33,36,37,38,39,41,43] ?_
    | (refine rG 4 ?_
       refine xE3 ?_
       fail "convert"
       refine qr4 zAv ?_
       fail "convert"
       refine vA ?_;refine aB ?_)
    | (refine rG 16 ?_
       refine xE3 ?_
       fail "convert"
       refine qr4 zAv ?_
       fail "convert"
       refine vA ?_;refine aB ?_)
    | (refine rG 24 ?_
       refine xE3 ?_
       fail "convert"
       refine qr4 zAv ?_
       fail "convert"
       refine vA ?_;refine aB ?_)
    | (refine rG 34 ?_
       refine xE3 ?_
       fail "convert"
       refine qr4 zAv ?_
       fail "convert"
       refine vA ?_;refine aB ?_))
   refine AWp.round (fun k:Nat=>mkL 220 1 (zD5 a m b C++ [(14,.c (iC i)),(17,.c (iC ((m:Int)-k)))]) [(1000,mvB (dnK moZ m k L))] [])
    (fun k=>k≤m-i) (fun k=>m-i-k) 0 (Nat.zero_le _) ?_ (fun k hk=> ?_)
   ·refine zQ [] rfl rfl rfl rfl rfl ?_ ?_
    ·exact zAH
    ·exact⟨zAo rfl rfl (fun i _ j _=>⟨rfl,zL zAh _ i j⟩),trivial⟩
   ·by_cases hlt:k<m-i
    ·obtain⟨M,hM⟩:∃M,dnK moZ m k L=M:=⟨_,rfl⟩
     have hml:M.length=L.length:=by rw[←hM];exact zFE m L k
     have hnext:dnK moZ m (k+1) L=swp moZ M (m-k) (m-k-1):=by rw[←hM];rfl
     rw[hM]
     repeat (first
      |refine vB [0,1,2,3,6,7,8,9,10,11,12,13,14,15,18,19,20,21,22,25,26,27,28,29,30,31,32,33,36,37,38,39,41,43] ?_
      | (refine rG 4 ?_
         refine xE3 ?_
         fail "convert"
         refine qr4 zAv ?_
         fail "convert"
         refine vA ?_;refine aB ?_)
      | (refine rG 16 ?_
         refine xE3 ?_
         fail "convert"
         refine qr4 zAv ?_
         fail "convert"
         refine vA ?_;refine aB ?_)
      |(refine AWp.draw (id:=23) zK ?_;refine xE8 ?_;(first|refine zG (aP (k:=m-k-1) zA) ?_|refine zI (zH (k:=m-k-1) zA) ?_);refine xE3 ?_;(first|refine zG (aP (k:=m-k) zA) ?_|refine zI (zH (k:=m-k) zA) ?_);refine vA ?_;(first|refine zG (aP (k:=m-k) zA) ?_|refine zI (zH (k:=m-k) zA) ?_);refine vA ?_;(first|refine zG (aP (k:=m-k-1) zA) ?_|refine zI (zH (k:=m-k-1) zA) ?_);refine vA ?_;refine aB ⟨by kernel_rfl,?_⟩)
      | (refine rG 24 ?_
         refine xE3 ?_
         fail "convert"
         refine qr4 zAv ?_
         fail "convert"
         refine vA ?_;refine aB ?_)
      | (refine rG 34 ?_
         refine xE3 ?_
         fail "convert"
         refine qr4 zAv ?_
         fail "convert"
         refine vA ?_;refine aB ?_))
     refine⟨k+1,by omega,?_,by omega⟩
     rw[hnext];refine zQ [] rfl rfl rfl rfl rfl ?_ ?_
     ·exact zAH
     ·exact⟨zGu rfl (zDp moZ) (zHn xD xD),trivial⟩
    ·obtain rfl:k=m-i:=by omega
     repeat (first
      |refine vB [0,1,2,3,6,7,8,9,10,11,12,13,14,15,18,19,20,21,22,23,25,26,27,28,29,30,31,32,33,36,37,38,39,41,43] ?_
      | (refine rG 4 ?_
         refine xE3 ?_
         fail "convert"
         refine qr4 zAv ?_
         fail "convert"
         refine vA ?_;refine aB ?_)
      | (refine rG 16 ?_
         refine xE3 ?_
         fail "convert"
         refine qr4 zAv ?_
         fail "convert"
         refine vA ?_;refine aB ?_)
      | (refine rG 24 ?_
         refine xE3 ?_
         fail "convert"
         refine qr4 zAv ?_
         fail "convert"
         refine vA ?_;refine aB ?_)
      | (refine rG 34 ?_
         refine xE3 ?_
         fail "convert"
         refine qr4 zAv ?_
         fail "convert"
         refine vA ?_;refine aB ?_))
     refine⟨mkL 220 1 [] [(1000,mvB (dnK moZ m (m-i) L))] [],[],zQ [] rfl rfl rfl rfl rfl trivial ?_,rfl,rfl,ARets.no⟩
     exact⟨zAo rfl rfl (fun i _ j _=>⟨rfl,zL zAh _ i j⟩),trivial⟩
theorem zEd{P:Program}{x y z:Code}{Q:Exit→St→Prop}{S:St}(S1:St)(h:AWp P x (zCe (AWp P y (fun e S'=>e=.normal∧Wk S' S1)) (fun e S'=>e=.normal∧Wk S' S1)) S)(hz:AWp P z Q S1):
 AWp P x (zCe (AWp P y (zCe (AWp P z Q) Q)) (zCe (AWp P z Q) Q)) S:=h.mono fun e S' h=>by
 cases e with
 |normal=>exact AWp.mono h fun e S' ⟨he,hw⟩=>by subst he;exact AWp.weak hw hz
 |_=>cases h.1
def zKW(f:Nat):Prop:=∀(L:List (Int×Int)) (a m b:Nat) (C:Nat→CV),a<m→m<b→b≤L.length→L.length≤1000→Oks L→b-a≤f→
    HCalls Tryz.prog 123 [.c (.ow 1000),.c (iC a),.c (iC m),.c (iC b),.c (zBX C)] [(1000,mvB L)] (.tu []) [(1000,mvB (sym moZ zV f a m b L))]
theorem zSm(f:Nat)(ih:zKW f)(L:List (Int×Int))(a m b:Nat)(C:Nat→CV)(h1:a<m)(h2:m<b)(hb:b≤L.length)(hn:L.length≤1000)(hL:Oks L)(hf:b-a≤f+1)(hc0:¬m-a=1)(hc1:¬b-m=1):
 HCalls Tryz.prog 123 [.c (.ow 1000),.c (iC a),.c (iC m),.c (iC b),.c (zBX C)] [(1000,mvB L)] (.tu []) [(1000,mvB (sym moZ zV (f+1) a m b L))]:=by
 refine zDf Tryz.func123 rfl rfl Tryz.ntmps123 rfl rfl (fun p hp=>by cases hp with|head=>exact fun k j _ _=>zL zAh _ k j|tail _ h=>cases h) ?_;have hu0:=zG1 (i:=a) (j:=b) xD;have hi0:=zG0 (i:=a) (j:=b) xD
 obtain⟨d,hd⟩:∃d,(a+b)/2=d:=⟨_,rfl⟩
 rw[hd]at hi0;have hdb:a<d∧d<b∧2*d≤a+b∧a+b≤2*d+1:=by omega
 obtain⟨s0,hs0⟩:∃s0,(if d<m then d+m-b else a)=s0:=⟨_,rfl⟩
 obtain⟨r0,hr0⟩:∃r0,(if d<m then d else m)=r0:=⟨_,rfl⟩
 have hsr:a≤s0∧s0≤r0∧r0≤m∧r0≤d∧d+m-s0≤b:=by
  rw[←hs0,←hr0]
  split<;>omega
 obtain⟨T,hT⟩:∃T:Nat→Bool,T=fun c=> !(zV (L.getD (d+m-1-c) moZ) (L.getD c moZ)):=⟨_,rfl⟩
 obtain⟨s,hse⟩:∃s,bs T (r0-s0) s0 r0=s:=⟨_,rfl⟩
 have hsb:=zEn T (r0-s0) s0 r0 hsr.2.1;rw[hse]at hsb
 obtain⟨e,he⟩:∃e,d+m-s=e:=⟨_,rfl⟩
 obtain⟨L1,hL1⟩:∃L1,(if s<m∧m<e then rot moZ m (e-s) (m-s) (e-m) L else L)=L1:=⟨_,rfl⟩
 obtain⟨L2,hL2⟩:∃L2,(if a<s∧s<d then sym moZ zV f a s d L1 else L1)=L2:=⟨_,rfl⟩
 obtain⟨L3,hL3⟩:∃L3,(if d<e∧e<b then sym moZ zV f d e b L2 else L2)=L3:=⟨_,rfl⟩
 have hsy:sym moZ zV (f+1) a m b L=L3:=by
  unfold sym;rw[if_neg hc0,if_neg hc1];dsimp only;rw[hd,hs0,hr0,←hT,hse,he,hL1,hL2,hL3]
 have hL1o:Oks L1∧L1.length=L.length:=by
  rw[←hL1]
  split
  ·exact⟨zHm m _ _ _ _ xD xD hL,zF6 _ _ _ _ _⟩
  ·exact⟨hL,rfl⟩
 have hL2o:Oks L2∧L2.length=L.length:=by
  rw[←hL2]
  split
  ·rename_i hc;exact⟨zGf f _ _ _ _ hc.1 hc.2 (by rw[hL1o.2];omega) hL1o.1,by rw[zE5];exact hL1o.2⟩
  ·exact hL1o
 have hL3l:L3.length=L.length:=by
  rw[←hL3]
  split
  ·rw[zE5];exact hL2o.2
  ·exact hL2o.2
 rw[hsy]
 repeat (first
  |refine vB [0,12,25,26] ?_
  | (refine rG 24 ?_
     refine xE3 ?_;refine zCf (hu0) xC Tryz.underlying185 rfl rfl rfl ?_;refine qr4 zAv ?_;refine zCf (hi0) xC Tryz.underlying3 rfl rfl rfl ?_;refine vA ?_;refine aB ?_))
 refine zEd (mkL 220 1 (zD5 a m b C++ [(18,.c (iC d)),(19,.c (iC ((d:Int)+m))),(20,.c (iC s0)),(21,.c (iC r0))]) [(1000,mvB L)] []) ?_ ?_
 ·by_cases hdm:d<m
  ·rw[if_pos hdm]at hs0 hr0
   refine vB [27,28,29,30,31] ?_
   refine⟨rfl,?_⟩
   refine zQ [] rfl rfl rfl rfl rfl ?_ ?_
   ·exact zAH
   ·exact⟨zAo rfl rfl (fun i _ j _=>⟨rfl,zL zAh _ i j⟩),trivial⟩
  ·rw[if_neg hdm]at hs0 hr0
   refine vB [27,28,29,30,31] ?_
   refine⟨rfl,?_⟩
   refine zQ [] rfl rfl rfl rfl rfl ?_ ?_
   ·exact zAH
   ·exact⟨zAo rfl rfl (fun i _ j _=>⟨rfl,zL zAh _ i j⟩),trivial⟩
 refine vB [32] ?_;refine AWp.round (fun t:Nat×Nat×Nat=>mkL 220 1 (zD5 a m b C++ [(18,.c (iC d)),(19,.c (iC ((d:Int)+m))),(20,.c (iC t.2.1)),(21,.c (iC t.2.2)),(22,.c (iC ((d:Int)+m-1)))]) [(1000,mvB L)] [])
  (fun t=>s0≤t.2.1∧t.2.1≤t.2.2∧t.2.2≤r0∧t.2.2-t.2.1≤t.1∧bs T t.1 t.2.1 t.2.2=s) (fun t=>t.1) (r0-s0,s0,r0) ⟨Nat.le_refl _,hsr.2.1,Nat.le_refl _,Nat.le_refl _,hse⟩ ?_ (fun t ht=> ?_)
 ·refine zQ [] rfl rfl rfl rfl rfl ?_ ?_
  ·exact zAH
  ·exact⟨zAo rfl rfl (fun i _ j _=>⟨rfl,zL zAh _ i j⟩),trivial⟩
 ·obtain ⟨g,i,j⟩:=t
  obtain⟨q1,q2,q3,q4,q5⟩:=ht
  dsimp only at q1 q2 q3 q4 q5;dsimp only;by_cases hij:i<j
  ·obtain⟨g,rfl⟩:∃k,g=k+1:=⟨g-1,by omega⟩
   have hu:=zG1 (i:=i) (j:=j) xD;have hi:=zG0 (i:=i) (j:=j) xD
   obtain⟨c,hh⟩:∃c,(i+j)/2=c:=⟨_,rfl⟩
   rw[hh]at hi;have hhb:i≤c∧c<j:=by omega
   have hcm:=zEp (L.getD (d+m-1-c) moZ) (L.getD c moZ) (hL _) (hL _);have q5':(if T c=true then bs T g (c+1) j else bs T g i c)=s:=by
    rw[←q5,←hh];show _=if i<j then (if T ((i+j)/2)=true then bs T g ((i+j)/2+1) j else bs T g i ((i+j)/2))else i
    rw[if_pos hij]
   by_cases hl:zV (L.getD (d+m-1-c) moZ) (L.getD c moZ)=true
   ·have hl':=mvCmp_lt.1 hl
    rw[if_neg (by rw[hT];simp only[hl];decide)]at q5'
    repeat (first
     |refine vB [33,36,37] ?_
     | (refine rG 34 ?_
        refine xE3 ?_;refine zCf (hu) xC Tryz.underlying185 rfl rfl rfl ?_;refine qr4 zAv ?_;refine zCf (hi) xC Tryz.underlying3 rfl rfl rfl ?_;refine vA ?_;refine aB ?_)
     |(refine AWp.draw (id:=35) zK ?_;refine xE5 ?_;(first|refine zG (aP (k:=d+m-1-c) zA) ?_|refine zI (zH (k:=d+m-1-c) zA) ?_);refine xE3 ?_;(first|refine zG (aP (k:=c) zA) ?_|refine zI (zH (k:=c) zA) ?_);refine vA ?_;refine zBW rfl rfl rfl rfl rfl Tryz.func104 rfl xC (hcm) ?_;refine xE2 ?_;refine aB ⟨by kernel_rfl,?_⟩))
    refine⟨(g,i,c),⟨q1,by dsimp only;omega,by dsimp only;omega,by dsimp only;omega,q5'⟩,zQ [] rfl rfl rfl rfl rfl ?_ ?_,by dsimp only;omega⟩
    ·exact zAH
    ·exact⟨zAo rfl rfl (fun i _ j _=>⟨rfl,zL zAh _ i j⟩),trivial⟩
   ·have hl':¬zDW (L.getD (d+m-1-c) moZ) (L.getD c moZ)<0:=fun h=>hl (mvCmp_lt.2 h)
    rw[if_pos (by rw[hT];simp only[Bool.eq_false_iff.2 hl];decide)]at q5'
    repeat (first
     |refine vB [33,36,37] ?_
     | (refine rG 34 ?_
        refine xE3 ?_;refine zCf (hu) xC Tryz.underlying185 rfl rfl rfl ?_;refine qr4 zAv ?_;refine zCf (hi) xC Tryz.underlying3 rfl rfl rfl ?_;refine vA ?_;refine aB ?_)
     |(refine AWp.draw (id:=35) zK ?_;refine xE5 ?_;(first|refine zG (aP (k:=d+m-1-c) zA) ?_|refine zI (zH (k:=d+m-1-c) zA) ?_);refine xE3 ?_;(first|refine zG (aP (k:=c) zA) ?_|refine zI (zH (k:=c) zA) ?_);refine vA ?_;refine zBW rfl rfl rfl rfl rfl Tryz.func104 rfl xC (hcm) ?_;refine xE2 ?_;refine aB ⟨by kernel_rfl,?_⟩))
    refine⟨(g,c+1,j),⟨by dsimp only;omega,by dsimp only;omega,q3,by dsimp only;omega,q5'⟩,zQ [] rfl rfl rfl rfl rfl ?_ ?_,by dsimp only;omega⟩
    ·exact zAH
    ·exact⟨zAo rfl rfl (fun i _ j _=>⟨rfl,zL zAh _ i j⟩),trivial⟩
  ·obtain rfl:i=s:=by rw[←q5];exact(zIh hij).symm
   have hei:(e:Int)=(d:Int)+m-i:=by omega
   have hp:0<L.length:=by omega
   have hp1:0<L1.length:=by omega
   have hp2:0<L2.length:=by omega
   refine vB [33,38] ?_;refine zEd (mkL 220 1 (zD5 a m b C++ [(18,.c (iC d)),(20,.c (iC i)),(24,.c (iC e))]) [(1000,mvB L1)] []) ?_ ?_
   ·by_cases c1:i<m
    ·by_cases c2:m<e
     ·rw [if_pos ⟨c1,c2⟩]at hL1
      have hR:=zRP L i m e (fun i=>zAO [1000] (C i)) c1 c2 xD hn;rw[hL1]at hR;rw[hei]at hR
      repeat (first
       |refine vB [39] ?_
       | (refine rG 40 ?_
          refine xE5 ?_;refine zAG [1000] [mvB L] [mvB L1] rfl rfl rfl Tryz.func125 rfl xC (LendOk.row rfl hp (fun i _ j _=>⟨rfl,zL zAh _ i j⟩) trivial) rfl (LendImm.row (fun i _ j _=>zL zAh _ i j) trivial) (hR) ?_;refine aB ?_))
      refine⟨rfl,?_⟩
      refine zQ [] rfl rfl rfl rfl rfl ?_ ?_
      ·exact zAH
      ·exact⟨zAo rfl rfl (fun i _ j _=>⟨rfl,zL zAh _ i j⟩),trivial⟩
     ·rw[if_neg fun h=>c2 h.2]at hL1
      rw[←hL1];refine vB [39] ?_
      refine⟨rfl,?_⟩
      refine zQ [] rfl rfl rfl rfl rfl ?_ ?_
      ·exact zAH
      ·exact⟨zAo rfl rfl (fun i _ j _=>⟨rfl,zL zAh _ i j⟩),trivial⟩
    ·rw[if_neg fun h=>c1 h.1]at hL1
     rw[←hL1];refine vB [39] ?_
     refine⟨rfl,?_⟩
     refine zQ [] rfl rfl rfl rfl rfl ?_ ?_
     ·exact zAH
     ·exact⟨zAo rfl rfl (fun i _ j _=>⟨rfl,zL zAh _ i j⟩),trivial⟩
   (iterate 2 refine uA ?_);refine zEd (mkL 220 1 (zD5 a m b C++ [(18,.c (iC d)),(20,.c (iC i)),(24,.c (iC e))]) [(1000,mvB L2)] []) ?_ ?_
   ·by_cases c1:a<i
    ·by_cases c2:i<d
     ·rw [if_pos ⟨c1,c2⟩]at hL2
      have hR:=ih L1 a i d (fun i=>zAO [1000] (C i)) c1 c2 xD xD hL1o.1 xD;rw[hL2]at hR
      repeat (first
       |refine vB [41] ?_
       | (refine rG 42 ?_
          refine xE5 ?_;refine zAG [1000] [mvB L1] [mvB L2] rfl rfl rfl Tryz.func123 rfl xC (LendOk.row rfl hp1 (fun i _ j _=>⟨rfl,zL zAh _ i j⟩) trivial) rfl (LendImm.row (fun i _ j _=>zL zAh _ i j) trivial) (hR) ?_;refine aB ?_))
      refine⟨rfl,?_⟩
      refine zQ [] rfl rfl rfl rfl rfl ?_ ?_
      ·exact zAH
      ·exact⟨zAo rfl rfl (fun i _ j _=>⟨rfl,zL zAh _ i j⟩),trivial⟩
     ·rw[if_neg fun h=>c2 h.2]at hL2
      rw[←hL2];refine vB [41] ?_
      refine⟨rfl,?_⟩
      refine zQ [] rfl rfl rfl rfl rfl ?_ ?_
      ·exact zAH
      ·exact⟨zAo rfl rfl (fun i _ j _=>⟨rfl,zL zAh _ i j⟩),trivial⟩
    ·rw[if_neg fun h=>c1 h.1]at hL2
     rw[←hL2];refine vB [41] ?_
     refine⟨rfl,?_⟩
     refine zQ [] rfl rfl rfl rfl rfl ?_ ?_
     ·exact zAH
     ·exact⟨zAo rfl rfl (fun i _ j _=>⟨rfl,zL zAh _ i j⟩),trivial⟩
   by_cases c1:d<e
   ·by_cases c2:e<b
    ·rw [if_pos ⟨c1,c2⟩]at hL3
     have hR:=ih L2 d e b (fun i=>zAO [1000] (C i)) c1 c2 xD xD hL2o.1 xD;rw[hL3]at hR
     repeat (first
      |refine vB [43] ?_
      | (refine rG 44 ?_
         refine xE5 ?_;refine zAG [1000] [mvB L2] [mvB L3] rfl rfl rfl Tryz.func123 rfl xC (LendOk.row rfl hp2 (fun i _ j _=>⟨rfl,zL zAh _ i j⟩) trivial) rfl (LendImm.row (fun i _ j _=>zL zAh _ i j) trivial) (hR) ?_;refine aB ?_))
     refine⟨mkL 220 1 [] [(1000,mvB (L3))] [],[],zQ [] rfl rfl rfl rfl rfl trivial ?_,rfl,rfl,ARets.no⟩
     exact⟨zAo rfl rfl (fun i _ j _=>⟨rfl,zL zAh _ i j⟩),trivial⟩
    ·rw[if_neg fun h=>c2 h.2]at hL3
     rw[←hL3];refine vB [43] ?_
     refine⟨mkL 220 1 [] [(1000,mvB (L2))] [],[],zQ [] rfl rfl rfl rfl rfl trivial ?_,rfl,rfl,ARets.no⟩
     exact⟨zAo rfl rfl (fun i _ j _=>⟨rfl,zL zAh _ i j⟩),trivial⟩
   ·rw[if_neg fun h=>c1 h.1]at hL3
    rw[←hL3];refine vB [43] ?_
    refine⟨mkL 220 1 [] [(1000,mvB (L2))] [],[],zQ [] rfl rfl rfl rfl rfl trivial ?_,rfl,rfl,ARets.no⟩
    exact⟨zAo rfl rfl (fun i _ j _=>⟨rfl,zL zAh _ i j⟩),trivial⟩
theorem zJN:∀f,zKW f
 |0=>fun L a m b C h1 h2 h3 h4 h5 h6=>absurd h6 xD
 | f+1=>fun L a m b C h1 h2 h3 h4 h5 h6=>by
   by_cases c1:m-a=1
   ·exact zSn f L a m b C h1 h2 h3 h4 h5 c1
   ·by_cases c2:b-m=1
    ·exact zSo f L a m b C h1 h2 h3 h4 h5 c1 c2
    ·exact zSm f (zJN f) L a m b C h1 h2 h3 h4 h5 h6 c1 c2
theorem zMy(a b:Nat)(L:List (Int×Int)):(ins moZ zV a b L).length=L.length:=zG3 a L _
theorem zQM{a b:Nat}{L:List (Int×Int)}(h:Oks L)(ha:a<L.length)(hb:b≤L.length):Oks (ins moZ zV a b L):=zI0 a L h _ xD
theorem zQL{a b:Nat}{L:List (Int×Int)}(h:b≤a+1):ins moZ zV a b L=L:=by unfold ins;rw[show b-(a+1)=0 by omega];rfl
theorem zMz{a b:Nat}{L:List (Int×Int)}(h:Oks L)(hb:b≤L.length):Oks (ins moZ zV a b L):=by
 by_cases ha:a<L.length
 ·exact zQM h ha hb
 ·rw[zQL xD];exact h
theorem zPG{n f a:Nat}{L:List (Int×Int)}(h:¬a+20≤n):blk moZ zV n f a L=ins moZ zV a n L:=by
 cases f with
 |zero=>rfl
 |succ f=>unfold blk;rw[if_neg h]
theorem zQ9{n f s:Nat}{L:List (Int×Int)}(h:¬s<n):zDU moZ zV n f s L=L:=by
 cases f with
 |zero=>rfl
 |succ f=>unfold zDU;rw[if_neg h]
theorem zSd(L:List (Int×Int))(C:Nat→CV)(hp0:0<L.length)(hn:L.length≤1000)(hL:Oks L):
 HCalls Tryz.prog 116 [.c (.ow 1000),.c (iC L.length),.c (zBX C)] [(1000,mvB L)] (.tu []) [(1000,mvB (zD4 moZ zV L))]:=by
 refine zDf Tryz.func116 rfl rfl Tryz.ntmps116 rfl rfl (fun p hp=>by cases hp with|head=>exact fun k j _ _=>zL zAh _ k j|tail _ h=>cases h) ?_
 obtain⟨n,hnl⟩:∃n,L.length=n:=⟨_,rfl⟩
 obtain⟨B,hB⟩:∃B,blk moZ zV n n 0 L=B:=⟨_,rfl⟩
 obtain⟨R,hR⟩:∃R,zDU moZ zV n n 20 B=R:=⟨_,rfl⟩
 rw[show zD4 moZ zV L=R by unfold zD4;rw[hnl,hB,hR]]
 rw[hnl]at hp0 hn⊢;refine vB [0,1] ?_;refine AWp.round (fun t:Nat×Nat×List (Int×Int)=>mkL 63 1 [(0,.c (.ow 1000)),(1,.c (iC n)),(2,.c (zBX C)),(6,.c (iC 20)),(7,.c (iC t.2.1)),(8,.c (iC ((t.2.1:Int)+20)))] [(1000,mvB t.2.2)] [])
  (fun t=>t.2.1≤n∧n-t.2.1≤t.1∧t.2.2.length=n∧Oks t.2.2∧blk moZ zV n t.1 t.2.1 t.2.2=B) (fun t=>t.1) (n,0,L) ⟨Nat.zero_le _,Nat.le_refl _,hnl,hL,hB⟩ ?_ (fun t ht=> ?_)
 ·refine zQ [] rfl rfl rfl rfl rfl ?_ ?_
  ·exact zAH
  ·exact⟨zAo rfl rfl (fun i _ j _=>⟨rfl,zL zAh _ i j⟩),trivial⟩
 ·obtain ⟨f,a,M⟩:=t
  obtain⟨q1,q2,q3,q4,q5⟩:=ht
  dsimp only at q1 q2 q3 q4 q5;dsimp only;have hp:0<M.length:=by omega
  by_cases hab:a+20≤n
  ·obtain⟨g,rfl⟩:∃g,f=g+1:=⟨f-1,by omega⟩
   have hI:=zMA M a (a+20) (fun i=>zAO [1000] (C i)) xD xD xD q4;rw[show(((a+20:Nat):Int))=(a:Int)+20 by omega]at hI;have q5':blk moZ zV n g (a+20) (ins moZ zV a (a+20) M)=B:=by
    rw[←q5];show _=if a+20≤n then blk moZ zV n g (a+20) (ins moZ zV a (a+20) M)else ins moZ zV a n M
    rw[if_pos hab]
   repeat (first
    |refine vB [2,4,5] ?_
    | (refine rG 3 ?_
       refine xE4 ?_;refine zAG [1000] [mvB M] [mvB (ins moZ zV a (a+20) M)] rfl rfl rfl Tryz.func122 rfl xC (LendOk.row rfl hp (fun i _ j _=>⟨rfl,zL zAh _ i j⟩) trivial) rfl (LendImm.row (fun i _ j _=>zL zAh _ i j) trivial) (hI) ?_;refine aB ?_))
   refine⟨(g,a+20,ins moZ zV a (a+20) M),⟨by dsimp only;omega,by dsimp only;omega,by dsimp only;rw[zMy];exact q3,zMz q4 xD,q5'⟩,zQ [] rfl rfl rfl rfl rfl ?_ ?_,by dsimp only;omega⟩
   ·exact zAH
   ·exact⟨zAo rfl rfl (fun i _ j _=>⟨rfl,zL zAh _ i j⟩),trivial⟩
  ·rw [zPG hab]at q5
   have hI:=zMA M a n (fun i=>zAO [1000] (C i)) xD q1 xD q4;rw[q5]at hI;have hBl:B.length=n:=by rw[←q5,zMy];exact q3
   have hBo:Oks B:=by rw[←q5];exact zMz q4 xD
   repeat (first
    |refine vB [2] ?_
    | (refine rG 6 ?_
       refine xE4 ?_;refine zAG [1000] [mvB M] [mvB B] rfl rfl rfl Tryz.func122 rfl xC (LendOk.row rfl hp (fun i _ j _=>⟨rfl,zL zAh _ i j⟩) trivial) rfl (LendImm.row (fun i _ j _=>zL zAh _ i j) trivial) (hI) ?_;refine aB ?_))
   refine AWp.round (fun t:Nat×Nat×List (Int×Int)=>mkL 63 1 [(0,.c (.ow 1000)),(1,.c (iC n)),(2,.c (zBX C)),(6,.c (iC t.2.1))] [(1000,mvB t.2.2)] [])
    (fun t=>20≤t.2.1∧t.2.1≤3000∧n-t.2.1≤t.1∧t.2.2.length=n∧Oks t.2.2∧zDU moZ zV n t.1 t.2.1 t.2.2=R) (fun t=>t.1) (n,20,B) ⟨Nat.le_refl _,by dsimp only;omega,by dsimp only;omega,hBl,hBo,hR⟩ ?_ (fun t ht=> ?_)
   ·refine zQ [] rfl rfl rfl rfl rfl ?_ ?_
    ·exact zAH
    ·exact⟨zAo rfl rfl (fun i _ j _=>⟨rfl,zL zAh _ i j⟩),trivial⟩
   ·obtain ⟨f,s,K⟩:=t
    obtain⟨p1,p2,p3,p4,p5,p6⟩:=ht
    dsimp only at p1 p2 p3 p4 p5 p6;dsimp only;by_cases hs:s<n
    ·obtain ⟨g,rfl⟩:∃g,f=g+1:=⟨f-1,by omega⟩
     obtain⟨K1,hK1⟩:∃K1,mrg moZ zV n s n 0 K=K1:=⟨_,rfl⟩
     have p6':zDU moZ zV n g (2*s) K1=R:=by
      rw[←p6,←hK1];show _=if s<n then zDU moZ zV n g (2*s) (mrg moZ zV n s n 0 K)else K
      rw[if_pos hs]
     refine vB [7,8] ?_;refine AWp.round (fun t:Nat×Nat×List (Int×Int)=>mkL 63 1 [(0,.c (.ow 1000)),(1,.c (iC n)),(2,.c (zBX C)),(6,.c (iC s)),(7,.c (iC t.2.1)),(8,.c (iC ((t.2.1:Int)+2*s)))] [(1000,mvB t.2.2)] [])
      (fun t=>t.2.1≤n∧n-t.2.1≤t.1∧t.2.2.length=n∧Oks t.2.2∧mrg moZ zV n s t.1 t.2.1 t.2.2=K1) (fun t=>t.1) (n,0,K) ⟨Nat.zero_le _,Nat.le_refl _,p4,p5,hK1⟩ ?_ (fun t ht=> ?_)
     ·refine zQ [] rfl rfl rfl rfl rfl ?_ ?_
      ·exact zAH
      ·exact⟨zAo rfl rfl (fun i _ j _=>⟨rfl,zL zAh _ i j⟩),trivial⟩
     ·obtain⟨f,a,M⟩:=t
      obtain⟨r1,r2,r3,r4,r5⟩:=ht
      dsimp only at r1 r2 r3 r4 r5;dsimp only;have hp:0<M.length:=by omega
      by_cases hab:a+2*s≤n
      ·obtain⟨g',rfl⟩:∃g,f=g+1:=⟨f-1,by omega⟩
       have hI:=zJN (2*s) M a (a+s) (a+2*s) (fun i=>zAO [1000] (C i)) xD xD xD xD r4 xD;rw[show(((a+s:Nat):Int))=(a:Int)+s by omega,show(((a+2*s:Nat):Int))=(a:Int)+2*s by omega]at hI;have r5':mrg moZ zV n s g' (a+2*s) (sym moZ zV (2*s) a (a+s) (a+2*s) M)=K1:=by
        rw[←r5];show _=if a+2*s≤n then mrg moZ zV n s g' (a+2*s) (sym moZ zV (2*s) a (a+s) (a+2*s) M)else if a+s<n then sym moZ zV (n-a) a (a+s) n M else M
        rw[if_pos hab]
       repeat (first
        |refine vB [9,11,12] ?_
        | (refine rG 10 ?_
           refine xE7 ?_;refine zAG [1000] [mvB M] [mvB (sym moZ zV (2*s) a (a+s) (a+2*s) M)] rfl rfl rfl Tryz.func123 rfl xC (LendOk.row rfl hp (fun i _ j _=>⟨rfl,zL zAh _ i j⟩) trivial) rfl (LendImm.row (fun i _ j _=>zL zAh _ i j) trivial) (hI) ?_;refine aB ?_))
       refine⟨(g',a+2*s,sym moZ zV (2*s) a (a+s) (a+2*s) M),⟨hab,by dsimp only;omega,by dsimp only;rw[zE5];exact r3,zGf _ _ _ _ _ xD xD xD r4,r5'⟩,zQ [] rfl rfl rfl rfl rfl ?_ ?_,by dsimp only;omega⟩
       ·exact zAH
       ·exact⟨zAo rfl rfl (fun i _ j _=>⟨rfl,zL zAh _ i j⟩),trivial⟩
      ·by_cases hm:a+s<n
       ·obtain⟨g',rfl⟩:∃g,f=g+1:=⟨f-1,by omega⟩
        have hI:=zJN (n-a) M a (a+s) n (fun i=>zAO [1000] (C i)) xD hm xD xD r4 xD;rw[show(((a+s:Nat):Int))=(a:Int)+s by omega]at hI;have r5':sym moZ zV (n-a) a (a+s) n M=K1:=by
         rw[←r5];show _=if a+2*s≤n then mrg moZ zV n s g' (a+2*s) (sym moZ zV (2*s) a (a+s) (a+2*s) M)else if a+s<n then sym moZ zV (n-a) a (a+s) n M else M
         rw[if_neg hab,if_pos hm]
        rw[r5']at hI;have hKl:K1.length=n:=by rw[←r5',zE5];exact r3
        have hKo:Oks K1:=by rw[←r5'];exact zGf _ _ _ _ _ xD hm xD r4
        repeat (first
         |refine vB [9,13,14,16] ?_
         | (refine rG 15 ?_
            refine xE5 ?_;refine zAG [1000] [mvB M] [mvB K1] rfl rfl rfl Tryz.func123 rfl xC (LendOk.row rfl hp (fun i _ j _=>⟨rfl,zL zAh _ i j⟩) trivial) rfl (LendImm.row (fun i _ j _=>zL zAh _ i j) trivial) (hI) ?_;refine aB ?_))
        refine⟨(g,2*s,K1),⟨by dsimp only;omega,by dsimp only;omega,by dsimp only;omega,hKl,hKo,p6'⟩,zQ [] rfl rfl rfl rfl rfl ?_ ?_,by dsimp only;omega⟩
        ·exact zAH
        ·exact⟨zAo rfl rfl (fun i _ j _=>⟨rfl,zL zAh _ i j⟩),trivial⟩
       ·have r5':M=K1:=by
         rw[←r5]
         cases f with
         |zero=>rfl
         | succ g'=>
           show _=if a+2*s≤n then mrg moZ zV n s g' (a+2*s) (sym moZ zV (2*s) a (a+s) (a+2*s) M)else if a+s<n then sym moZ zV (n-a) a (a+s) n M else M
           rw[if_neg hab,if_neg hm]
        subst r5';refine vB [9,13,14,16] ?_
        refine⟨(g,2*s,M),⟨by dsimp only;omega,by dsimp only;omega,by dsimp only;omega,r3,r4,p6'⟩,zQ [] rfl rfl rfl rfl rfl ?_ ?_,by dsimp only;omega⟩
        ·exact zAH
        ·exact⟨zAo rfl rfl (fun i _ j _=>⟨rfl,zL zAh _ i j⟩),trivial⟩
    ·rw[zQ9 hs]at p6
     subst p6;refine vB [7] ?_
     refine⟨mkL 63 1 [] [(1000,mvB K)] [],[],zQ [] rfl rfl rfl rfl rfl trivial ?_,rfl,rfl,ARets.no⟩
     exact⟨zAo rfl rfl (fun i _ j _=>⟨rfl,zL zAh _ i j⟩),trivial⟩
theorem zPa(L:List (Int×Int))(C:Nat→CV)(hp0:0<L.length)(hn:L.length≤1000)(hL:Oks L):
 HCalls Tryz.prog 103 [.c (.ow 1000),.c (zBX C)] [(1000,mvB L)] (.tu []) [(1000,mvB (zD4 moZ zV L))]:=by
 refine zDf Tryz.func103 rfl rfl Tryz.ntmps103 rfl rfl (fun p hp=>by cases hp with|head=>exact fun k j _ _=>zL zAh _ k j|tail _ h=>cases h) ?_;have hS:=zSd L (fun i=>zAO [1000] (C i)) hp0 hn hL
 repeat (first
  |refine vB [] ?_
  | (refine rG 0 ?_
     refine xE4 ?_;refine zAG [1000] [mvB L] [mvB (zD4 moZ zV L)] rfl rfl rfl Tryz.func116 rfl xC (LendOk.row rfl hp0 (fun i _ j _=>⟨rfl,zL zAh _ i j⟩) trivial) rfl (LendImm.row (fun i _ j _=>zL zAh _ i j) trivial) (hS) ?_;refine aB ?_))
 refine⟨mkL 9 1 [] [(1000,mvB (zD4 moZ zV L))] [],[],zQ [] rfl rfl rfl rfl rfl trivial ?_,rfl,rfl,ARets.no⟩
 exact⟨zAo rfl rfl (fun i _ j _=>⟨rfl,zL zAh _ i j⟩),trivial⟩
end Go.Proofs.YtbffmfeldkjkcaaGreat
end
