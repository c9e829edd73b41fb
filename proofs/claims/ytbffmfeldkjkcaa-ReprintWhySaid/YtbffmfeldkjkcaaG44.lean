/- Parts of the proof: A29g, A29h, A29i, A29j, A29k, A29l, A30p. -/
import Derived.Test.YtbffmfeldkjkcaaG43
set_option linter.unusedSimpArgs false
set_option linter.unusedVariables false
set_option maxHeartbeats 0
set_option maxRecDepth 100000
section
namespace Go.Proofs.Ytbffmfeldkjkcaa
open Go.RowKit Go.Flow Go.AV Go.Plain
abbrev plP(p:Pb):CV:=.pl 1 5 (lF (pbC p)) 0 0
abbrev tbB(p:Pb)(q:Nat):AB:=⟨false,1,6,120,lF (pbC p++ [.ow q])⟩
abbrev chI(ch:List Int):AB:=zAa ch.length (fI ch)
def obB(p:Pb)(ch:List Int)(n:Int):Bp:=if n<0 then p.F.getD (-1-n).toNat bpZ else (p.C.getD n.toNat []).getD (fI ch n.toNat).toNat bpZ
def obG(p:Pb)(n:Int):Bg:=if n<0 then p.T.getD (-1-n).toNat bgZ else p.O.getD n.toNat bgZ
theorem obB_f{p:Pb}{ch:List Int}{k:Nat}:obB p ch (-1-(k:Int))=p.F.getD k bpZ∧obG p (-1-(k:Int))=p.T.getD k bgZ:=by
 unfold obB obG;rw[if_pos xD,if_pos xD,show(-1-(-1-(k:Int))).toNat=k by omega]
 exact⟨rfl,rfl⟩
theorem zNr{p:Pb}{ch:List Int}{k c:Nat}(h:fI ch k=(c:Int)):obB p ch (k:Int)=(p.C.getD k []).getD c bpZ∧obG p (k:Int)=p.O.getD k bgZ:=by
 unfold obB obG;rw[if_neg xD,if_neg xD]
 show(p.C.getD k []).getD (fI ch k).toNat bpZ=_∧_
 rw[h]
 exact⟨rfl,rfl⟩
theorem ChOk.at{p:Pb}{ch:List Int}(h:ChOk p ch){k:Nat}(hk:k<ch.length):∃c:Nat,fI ch k=(c:Int)∧k<p.C.length∧k<p.O.length∧c<(p.C.getD k []).length:=by
 rcases h k hk with ⟨h1,_⟩|⟨i,c,h1,h2,h3,h4,h5⟩
 ·omega
 ·obtain rfl:k=i:=by omega
  exact⟨c,h2,h3,h4,h5⟩
theorem zNs(p:Pb)(hp:p.fit)(ch:List Int)(n:Int)(h:(∃k:Nat,n = -1-(k:Int)∧k<p.F.length∧k<p.T.length)∨(∃k:Nat,n=k∧k<ch.length))(hc:ChOk p ch):
 zEs Try.prog 81 [.c (.pt 1000 6 0 0),.c (iC n)] [tbB p 800] [chI ch] (.tu [.ag (bpC (obB p ch n)),.ag (bgC (obG p n))]) [tbB p 900] [chI ch]:=by
 have lF0:=hp.f;have lC:=hp.c;have lO:=hp.o
 rcases h with ⟨k,rfl,h1,h2⟩|⟨k,rfl,h1⟩
 ·rw[obB_f.1,(obB_f (p:=p) (ch:=ch)).2]
  have hn:-1-(k:Int)<0:=by omega
  have he:-1-(-1-(k:Int))=k:=by omega
  refine zF4 Try.func81 rfl rfl Try.ntmps81 rfl ?_
  repeat (first
   |refine vB [0,1] ?_
   |(refine AWp.draw (id:=2) zL ?_;refine xE7 ?_;refine zG (aP (k:=k) zA) ?_;refine xE8 ?_;refine zG (aP (k:=k) zA) ?_;refine xE3 ?_;refine aB ⟨by kernel_rfl,?_⟩))
  refine⟨mkG (fun _=>True) 0 false 51 1 [(4,.c (.pt 4 3 0 0)),(5,.c (.pt 5 4 0 0))] [(4,⟨false,1,3,60,lF (bpC (p.F.getD k bpZ))⟩),(5,⟨false,1,4,62,lF (bgC (p.T.getD k bgZ))⟩),(900,chI ch),(1000,tbB p 900)] [4,5,900],[(4,⟨false,1,3,60,lF (bpC (p.F.getD k bpZ))⟩),(5,⟨false,1,4,62,lF (bgC (p.T.getD k bgZ))⟩)],_,[tbB p 900],[chI ch],⟨rfl,rfl,rfl⟩,rfl,Wk.mkG [(4,some 4),(5,some 5),(900,some 800)] rfl rfl rfl rfl rfl ?_ ?_ rfl rfl (fun _ _=>trivial),rfl,rfl,GRets.two (x:=.ag _) (y:=.ag _) (GRes.box zA rfl rfl rfl rfl rfl rfl) (GRes.box zA rfl rfl rfl rfl rfl rfl)⟩
  ·exact zC
  ·exact⟨hSm,hSm,HeapOk.row rfl rfl rfl (fun _ _=>zY ⟨rfl,rfl⟩),zQ rfl rfl ⟨LeC.refl _ rfl,LeC.refl _ rfl,LeC.refl _ rfl,LeC.refl _ rfl,LeC.refl _ rfl,LeC.ow _ _ rfl,trivial⟩ rfl,trivial⟩
 ·obtain⟨c,h2,h3,h4,h5⟩:=hc.at h1
  rw[(zNr h2).1,(zNr (p:=p) (ch:=ch) h2).2];have hL32:=hp.l _ (zAJ (L:=p.C) (k:=k) (z:= []) h3);have hn:¬(k:Int)<0:=by omega
  have hcF:chF p.C k 0=lsB (p.C.getD k []):=rfl;have hcc:iF (fI ch) k 0=iC (c:Nat):=congrArg iC h2;refine zF4 Try.func81 rfl rfl Try.ntmps81 rfl ?_
  repeat (first
   |refine vB [0,1] ?_
   |(refine AWp.draw (id:=3) zL ?_;refine xE6 ?_;refine zG (aP (k:=k) zA) ?_;refine zAk zA (hcF) rfl rfl rfl rfl rfl oM ?_;refine xE5 ?_;refine zJ (zH (k:=k) zA) ?_;refine zAH zA rfl rfl rfl rfl rfl rfl rfl oM oM (hcc) ?_;refine zG (aP (k:=c) zA) ?_;refine xE7 ?_;refine zG (aP (k:=k) zA) ?_;refine xE3 ?_;refine aB ⟨by kernel_rfl,?_⟩))
  refine⟨mkG (fun _=>True) 0 false 51 1 [(4,.c (.pt 4 3 0 0)),(5,.c (.pt 5 4 0 0))] [(4,⟨false,1,3,60,lF (bpC ((p.C.getD k []).getD c bpZ))⟩),(5,⟨false,1,4,62,lF (bgC (p.O.getD k bgZ))⟩),(900,chI ch),(1000,tbB p 900)] [4,5,900],[(4,⟨false,1,3,60,lF (bpC ((p.C.getD k []).getD c bpZ))⟩),(5,⟨false,1,4,62,lF (bgC (p.O.getD k bgZ))⟩)],_,[tbB p 900],[chI ch],⟨rfl,rfl,rfl⟩,rfl,Wk.mkG [(4,some 4),(5,some 5),(900,some 800)] rfl rfl rfl rfl rfl ?_ ?_ rfl rfl (fun _ _=>trivial),rfl,rfl,GRets.two (x:=.ag _) (y:=.ag _) (GRes.box zA rfl rfl rfl rfl rfl rfl) (GRes.box zA rfl rfl rfl rfl rfl rfl)⟩
  ·exact zC
  ·exact⟨hSm,hSm,HeapOk.row rfl rfl rfl (fun _ _=>zY ⟨rfl,rfl⟩),zQ rfl rfl ⟨LeC.refl _ rfl,LeC.refl _ rfl,LeC.refl _ rfl,LeC.refl _ rfl,LeC.refl _ rfl,LeC.ow _ _ rfl,trivial⟩ rfl,trivial⟩
structure Stp where
 nm:Int
 ch:Int
 wi:Int
 rd:Int
 dp:Bool
 cl:Cl
 deriving DecidableEq
abbrev stC(s:Stp):List CV:= [iC s.nm,iC s.ch,iC s.wi,iC s.rd,bC s.dp]++clC s.cl
abbrev stZ:Stp:=⟨0,0,0,0,false,clZ⟩
abbrev zBW(i c:Int):Stp:=⟨i,c,0,0,true,clZ⟩
theorem zMf(i c:Int):ACalls Try.prog 83 [.c (iC i),.c (iC c)] (.ag (stC (zBW i c))):=by
 refine zK Try.func83 rfl rfl Try.ntmps83 rfl ?_;refine vB [0,1] ?_
 refine⟨zD 8 [(4,.c (.pt 4 8 0 0))] [(4,⟨false,1,8,77,lF (stC (zBW i c))⟩)] [4],[(4,⟨false,1,8,77,lF (stC (zBW i c))⟩)],Wk.mk [(4,some 4)] rfl rfl rfl ?_ ?_,rfl,rfl,ARets.one (x:=.ag _) (ARes.box zA rfl rfl rfl rfl rfl rfl rfl)⟩
 ·exact zC
 ·exact⟨hSm,trivial⟩
def obN(p:Pb)(k:Nat):Int:=if k<p.F.length then -1-(k:Int)else (k:Int)-p.F.length
def zBt(p:Pb)(ch:List Int)(c:Nat)(k:Nat):Nat×Cl×Bool:=zCW p.R ((p.C.getD ch.length []).getD c bpZ) (obB p ch (obN p k)) (p.O.getD ch.length bgZ) (obG p (obN p k))
def zRP(p:Pb)(ch:List Int)(c:Nat):Option Nat→Stp
 |some k=>⟨ch.length,c,obN p k,(zBt p ch c k).1,false,(zBt p ch c k).2.1⟩
 |none=>zBW ch.length c
def zA7(p:Pb)(ch:List Int)(c:Nat):Stp:=zRP p ch c ((List.range (p.F.length+ch.length)).find? fun k=>(zBt p ch c k).2.2)
theorem zNH{f:Nat→Bool}:∀{n k:Nat},k<n→f k=true→(∀j,j<k→f j=false)→(List.range n).find? f=some k
 |0,k,h,_,_=>absurd h (Nat.not_lt_zero _)
 | n+1,k,h,hf,hl=>by
   rw[List.range_succ,List.find?_append];by_cases e:k<n
   ·rw[zNH e hf hl];rfl
   ·obtain rfl:k=n:=by omega
    rw[show(List.range k).find? f=none by rw[List.find?_eq_none];intro x hx;rw[hl x (List.mem_range.1 hx)];decide]
    show(List.find? f [k])=_
    rw[List.find?_cons,hf]
theorem zR7{f:Nat→Bool}{n:Nat}(hl:∀j,j<n→f j=false):(List.range n).find? f=none:=by
 rw[List.find?_eq_none];intro x hx;rw[hl x (List.mem_range.1 hx)];decide
theorem zCd{S:St}{ids mids l:List Nat}{p:Pb}{o q:Nat}{bs:List AB}(i:Nat)(hp:S.h o=some (tbB p q))(hq:zT mids q=some i)(h:zBl S ids mids l bs):zBl S ids mids (o::l) (tbB p (800+i)::bs):=
 ⟨⟨_,hp,(fun h=>by cases h),fun k hk j hj=>by
   obtain rfl:k=0:=Nat.lt_one_iff.mp hk
   match j,hj with
   |0,_|1,_|2,_|3,_|4,_=>exact .b (.imm _ rfl)
   |5,_=>exact .b (.mv _ _ hq)⟩,h⟩
theorem zCD{ids ni:List Nat}{p:Pb}{q:Nat}{l m:List AB}(i:Nat)(hq:zT ni q=some i)(h:zBd ids ni l m):zBd ids ni (tbB p (900+i)::l) (tbB p q::m):=
 ⟨⟨_,rfl,fun k hk j hj=>by
   obtain rfl:k=0:=Nat.lt_one_iff.mp hk
   match j,hj with
   |0,_|1,_|2,_|3,_|4,_=>exact .b (.imm _ rfl)
   |5,_=>exact .b (.owN _ _ hq)⟩,h⟩
theorem zRI{p:Pb}(hp:p.fit){ch:List Int}(hc:ChOk p ch){k:Nat}(hk:k<p.F.length+ch.length):(∃j:Nat,obN p k = -1-(j:Int)∧j<p.F.length∧j<p.T.length)∨(∃j:Nat,obN p k=j∧j<ch.length):=by
 unfold obN;have:=hp.t;by_cases h:k<p.F.length
 ·rw[if_pos h];exact .inl ⟨k,rfl,h,by omega⟩
 ·rw[if_neg h];exact .inr ⟨k-p.F.length,by omega,by omega⟩
theorem zSS(p:Pb)(hp:p.fit)(ch:List Int)(hc:ChOk p ch)(c:Nat)(hi:ch.length<p.C.length)(hcl:c<(p.C.getD ch.length []).length):
 zEs Try.prog 80 [.c (.pt 1000 6 0 0),.c (iC (c:Nat))] [tbB p 800] [chI ch] (.ag (stC (zA7 p ch c))) [tbB p 900] [chI ch]:=by
 have lF0:=hp.f;have lC:=hp.c;have lO:=hp.o;have hL32:=hp.l _ (zAJ (L:=p.C) (k:=ch.length) (z:= []) hi);have hcF:chF p.C ch.length 0=lsB (p.C.getD ch.length []):=rfl
 obtain⟨V,hV⟩:∃V,zA7 p ch c=V:=⟨_,rfl⟩
 rw[hV];unfold zA7 at hV;have h80:((800+0,chI ch):Nat×AB).snd.n=ch.length:=rfl;refine zF4 Try.func80 rfl rfl Try.ntmps80 rfl ?_;refine vB [0,1,2] ?_;refine AWp.round (fun k:Nat=>mkG (fun _=>True) 0 false 94 1 [(0,.c (.pt 1000 6 0 0)),(1,.c (iC (c:Nat))),(4,.c (.pt 4 8 0 0)),(5,.c (iC (ch.length:Nat))),(25,.c (iC ((p.F.length:Int)+ch.length))),(26,.c (iC (k:Nat)))] [(4,⟨false,1,8,77,lF (stC stZ)⟩),(30,chI ch),(1000,tbB p 30)] [4,30]) (fun k=>k≤p.F.length+ch.length∧∀j,j<k→(zBt p ch c j).2.2=false) (fun k=>p.F.length+ch.length-k) 0 ⟨Nat.zero_le _,fun _ h=>absurd h (Nat.not_lt_zero _)⟩ ?_ (fun k hk=> ?_)
 ·refine Wk.mkG [(4,some 4),(30,some 800)] rfl rfl rfl rfl rfl ?_ ?_ rfl rfl (fun _ _=>trivial)
  ·repeat (first|exact trivial|refine⟨⟨_,rfl,by first|exact LeA.c (LeC.ptB _ _ _ _ rfl)|exact leT⟩,?_⟩)
  ·exact⟨hSm,HeapOk.row rfl rfl rfl (fun _ _=>zY ⟨rfl,rfl⟩),zQ rfl rfl ⟨LeC.refl _ rfl,LeC.refl _ rfl,LeC.refl _ rfl,LeC.refl _ rfl,LeC.refl _ rfl,LeC.ow _ _ rfl,trivial⟩ rfl,trivial⟩
 obtain⟨hk,hno⟩:=hk
 by_cases hkl:k<p.F.length+ch.length;rotate_left
 ·have hkl':¬(k:Int)<(p.F.length:Int)+ch.length:=by omega
  obtain rfl:k=p.F.length+ch.length:=by omega
  rw[zR7 hno]at hV;subst hV;have hD:=zMf (ch.length:Nat) (c:Nat)
  repeat (first
   |refine vB [3] ?_
   | (refine rG 13 ?_
      refine xE2 ?_;refine xB Try.func83 hD ?_;refine vA ?_;refine aB ?_))
  refine⟨mkG (fun _=>True) 0 false 94 1 [(4,.c (.pt 4 8 0 0))] [(4,⟨false,1,8,77,lF (stC (zBW (ch.length:Nat) (c:Nat)))⟩),(900,chI ch),(1000,tbB p 900)] [4,900],[(4,⟨false,1,8,77,lF (stC (zBW (ch.length:Nat) (c:Nat)))⟩)],_,[tbB p 900],[chI ch],⟨rfl,rfl,rfl⟩,rfl,Wk.mkG [(4,some 4),(900,some 30)] rfl rfl rfl rfl rfl ?_ ?_ rfl rfl (fun _ _=>trivial),rfl,rfl,GRets.one (x:=.ag _) (GRes.box zA rfl rfl rfl rfl rfl rfl)⟩
  ·exact zC
  ·exact⟨hSm,HeapOk.row rfl rfl rfl (fun _ _=>zY ⟨rfl,rfl⟩),zQ rfl rfl ⟨LeC.refl _ rfl,LeC.refl _ rfl,LeC.refl _ rfl,LeC.refl _ rfl,LeC.refl _ rfl,LeC.ow _ _ rfl,trivial⟩ rfl,trivial⟩
 have hkl':(k:Int)<(p.F.length:Int)+ch.length:=by omega
 have hO:=zNs p hp ch (obN p k) (zRI hp hc hkl) hc;have hCl:=zKT p ((p.C.getD ch.length []).getD c bpZ) (obB p ch (obN p k)) (p.O.getD ch.length bgZ) (obG p (obN p k)) hp.ok.lR hp.ok.rd;have hkv:zBt p ch c k=zCW p.R ((p.C.getD ch.length []).getD c bpZ) (obB p ch (obN p k)) (p.O.getD ch.length bgZ) (obG p (obN p k)):=rfl;rw[←hkv]at hCl;clear hkv
 obtain⟨v,hv⟩:∃v,zBt p ch c k=v:=⟨_,rfl⟩
 rw[hv]at hCl;have hhit:v.2.2=true→V=⟨ch.length,c,obN p k,v.1,false,v.2.1⟩:=fun h=>by
  rw[←hV,zNH (f:=fun k=>(zBt p ch c k).2.2) hkl (by rw[hv];exact h) hno]
  show(⟨ch.length,c,obN p k,(zBt p ch c k).1,false,(zBt p ch c k).2.1⟩:Stp)=_
  rw[hv]
 have hnext:v.2.2=false→k+1≤p.F.length+ch.length∧∀j,j<k+1→(zBt p ch c j).2.2=false:=fun h=>⟨hkl,fun j hj=>by
  by_cases e:j=k
  ·rw[e,hv];exact h
  ·exact hno j xD⟩
 clear hv hV
 obtain⟨r,s,o⟩:=v
 dsimp only at hCl hhit hnext
 obtain⟨n,hn⟩:∃n,obN p k=n:=⟨_,rfl⟩
 rw[hn]at hO hCl hhit;generalize obB p ch n=B at *;generalize obG p n=G at *;by_cases hkF:k<p.F.length
 ·obtain rfl:-1-(k:Int)=n:=by rw[←hn];exact(if_pos hkF).symm
  have hkF':¬(k:Int)≥p.F.length:=by omega
  cases o with
  | true=>
    rw[hhit rfl]
    repeat (first
     |refine vB [3,4,5,6,10,11] ?_
     | (refine rG 8 ?_
        refine xE2 ?_;refine zBT [1000] [30] [31] [tbB p 800] [chI ch] [tbB p 900] [chI ch] [tbB p 31] [chI ch] rfl rfl FnV.func rfl Try.func81 rfl xC (zCd 0 rfl rfl trivial) (⟨⟨_,rfl,rfl,fun _ _ _ _=>⟨rfl,rfl⟩⟩,trivial⟩) rfl (by exact⟨.c (.b (.pt 1000 0 6 0 0 rfl)),.c (.b (.imm _ rfl)),trivial⟩) (zDU (bpC B) (bgC G) rfl rfl) (zCD 0 rfl trivial) (⟨⟨_,rfl,fun _ _ _ _=>.imm _ rfl⟩,trivial⟩) (hO) ?_;refine xE7 ?_;refine aB ?_)
     |(refine AWp.draw (id:=9) zL ?_;refine zCs ?_;refine zG (aP (k:=ch.length) zA) ?_;refine zAk zA (hcF) rfl rfl rfl rfl rfl oM ?_;refine vA ?_;refine zG (aP (k:=c) zA) ?_;refine xE8 ?_;refine zG (aP (k:=ch.length) zA) ?_;refine xE2 ?_;refine xB Try.func19 hCl ?_;refine xE8 ?_;refine aB ⟨by kernel_rfl,?_⟩))
    refine⟨mkG (fun _=>True) 0 false 94 1 [(4,.c (.pt 4 8 0 0))] [(4,⟨false,1,8,77,lF (stC (⟨ch.length,c,_,r,false,s⟩))⟩),(900,chI ch),(1000,tbB p 900)] [4,900],[(4,⟨false,1,8,77,lF (stC (⟨ch.length,c,_,r,false,s⟩))⟩)],_,[tbB p 900],[chI ch],⟨rfl,rfl,rfl⟩,rfl,Wk.mkG [(4,some 4),(900,some 31)] rfl rfl rfl rfl rfl ?_ ?_ rfl rfl (fun _ _=>trivial),rfl,rfl,GRets.one (x:=.ag _) (GRes.box zA rfl rfl rfl rfl rfl rfl)⟩
    ·exact zC
    ·exact⟨hSm,HeapOk.row rfl rfl rfl (fun _ _=>zY ⟨rfl,rfl⟩),zQ rfl rfl ⟨LeC.refl _ rfl,LeC.refl _ rfl,LeC.refl _ rfl,LeC.refl _ rfl,LeC.refl _ rfl,LeC.ow _ _ rfl,trivial⟩ rfl,trivial⟩
  | false=>
    repeat (first
     |refine vB [3,4,5,6,10,12] ?_
     | (refine rG 8 ?_
        refine xE2 ?_;refine zBT [1000] [30] [31] [tbB p 800] [chI ch] [tbB p 900] [chI ch] [tbB p 31] [chI ch] rfl rfl FnV.func rfl Try.func81 rfl xC (zCd 0 rfl rfl trivial) (⟨⟨_,rfl,rfl,fun _ _ _ _=>⟨rfl,rfl⟩⟩,trivial⟩) rfl (by exact⟨.c (.b (.pt 1000 0 6 0 0 rfl)),.c (.b (.imm _ rfl)),trivial⟩) (zDU (bpC B) (bgC G) rfl rfl) (zCD 0 rfl trivial) (⟨⟨_,rfl,fun _ _ _ _=>.imm _ rfl⟩,trivial⟩) (hO) ?_;refine xE7 ?_;refine aB ?_)
     |(refine AWp.draw (id:=9) zL ?_;refine zCs ?_;refine zG (aP (k:=ch.length) zA) ?_;refine zAk zA (hcF) rfl rfl rfl rfl rfl oM ?_;refine vA ?_;refine zG (aP (k:=c) zA) ?_;refine xE8 ?_;refine zG (aP (k:=ch.length) zA) ?_;refine xE2 ?_;refine xB Try.func19 hCl ?_;refine xE8 ?_;refine aB ⟨by kernel_rfl,?_⟩))
    refine⟨k+1,hnext rfl,Wk.mkG [(4,some 4),(30,some 31)] rfl rfl rfl rfl rfl ?_ ?_ rfl rfl (fun _ _=>trivial),by omega⟩
    ·repeat (first|exact trivial|refine⟨⟨_,rfl,by first|exact LeA.c (LeC.ptB _ _ _ _ rfl)|exact leT⟩,?_⟩)
    ·exact⟨hSm,HeapOk.row rfl rfl rfl (fun _ _=>zY ⟨rfl,rfl⟩),zQ rfl rfl ⟨LeC.refl _ rfl,LeC.refl _ rfl,LeC.refl _ rfl,LeC.refl _ rfl,LeC.refl _ rfl,LeC.ow _ _ rfl,trivial⟩ rfl,trivial⟩
 ·obtain rfl:(k:Int)-p.F.length=n:=by rw[←hn];exact(if_neg hkF).symm
  have hkF':(k:Int)≥p.F.length:=by omega
  cases o with
  | true=>
    rw[hhit rfl]
    repeat (first
     |refine vB [3,4,5,6,7,10,11] ?_
     | (refine rG 8 ?_
        refine xE2 ?_;refine zBT [1000] [30] [31] [tbB p 800] [chI ch] [tbB p 900] [chI ch] [tbB p 31] [chI ch] rfl rfl FnV.func rfl Try.func81 rfl xC (zCd 0 rfl rfl trivial) (⟨⟨_,rfl,rfl,fun _ _ _ _=>⟨rfl,rfl⟩⟩,trivial⟩) rfl (by exact⟨.c (.b (.pt 1000 0 6 0 0 rfl)),.c (.b (.imm _ rfl)),trivial⟩) (zDU (bpC B) (bgC G) rfl rfl) (zCD 0 rfl trivial) (⟨⟨_,rfl,fun _ _ _ _=>.imm _ rfl⟩,trivial⟩) (hO) ?_;refine xE7 ?_;refine aB ?_)
     |(refine AWp.draw (id:=9) zL ?_;refine zCs ?_;refine zG (aP (k:=ch.length) zA) ?_;refine zAk zA (hcF) rfl rfl rfl rfl rfl oM ?_;refine vA ?_;refine zG (aP (k:=c) zA) ?_;refine xE8 ?_;refine zG (aP (k:=ch.length) zA) ?_;refine xE2 ?_;refine xB Try.func19 hCl ?_;refine xE8 ?_;refine aB ⟨by kernel_rfl,?_⟩))
    refine⟨mkG (fun _=>True) 0 false 94 1 [(4,.c (.pt 4 8 0 0))] [(4,⟨false,1,8,77,lF (stC (⟨ch.length,c,_,r,false,s⟩))⟩),(900,chI ch),(1000,tbB p 900)] [4,900],[(4,⟨false,1,8,77,lF (stC (⟨ch.length,c,_,r,false,s⟩))⟩)],_,[tbB p 900],[chI ch],⟨rfl,rfl,rfl⟩,rfl,Wk.mkG [(4,some 4),(900,some 31)] rfl rfl rfl rfl rfl ?_ ?_ rfl rfl (fun _ _=>trivial),rfl,rfl,GRets.one (x:=.ag _) (GRes.box zA rfl rfl rfl rfl rfl rfl)⟩
    ·exact zC
    ·exact⟨hSm,HeapOk.row rfl rfl rfl (fun _ _=>zY ⟨rfl,rfl⟩),zQ rfl rfl ⟨LeC.refl _ rfl,LeC.refl _ rfl,LeC.refl _ rfl,LeC.refl _ rfl,LeC.refl _ rfl,LeC.ow _ _ rfl,trivial⟩ rfl,trivial⟩
  | false=>
    repeat (first
     |refine vB [3,4,5,6,7,10,12] ?_
     | (refine rG 8 ?_
        refine xE2 ?_;refine zBT [1000] [30] [31] [tbB p 800] [chI ch] [tbB p 900] [chI ch] [tbB p 31] [chI ch] rfl rfl FnV.func rfl Try.func81 rfl xC (zCd 0 rfl rfl trivial) (⟨⟨_,rfl,rfl,fun _ _ _ _=>⟨rfl,rfl⟩⟩,trivial⟩) rfl (by exact⟨.c (.b (.pt 1000 0 6 0 0 rfl)),.c (.b (.imm _ rfl)),trivial⟩) (zDU (bpC B) (bgC G) rfl rfl) (zCD 0 rfl trivial) (⟨⟨_,rfl,fun _ _ _ _=>.imm _ rfl⟩,trivial⟩) (hO) ?_;refine xE7 ?_;refine aB ?_)
     |(refine AWp.draw (id:=9) zL ?_;refine zCs ?_;refine zG (aP (k:=ch.length) zA) ?_;refine zAk zA (hcF) rfl rfl rfl rfl rfl oM ?_;refine vA ?_;refine zG (aP (k:=c) zA) ?_;refine xE8 ?_;refine zG (aP (k:=ch.length) zA) ?_;refine xE2 ?_;refine xB Try.func19 hCl ?_;refine xE8 ?_;refine aB ⟨by kernel_rfl,?_⟩))
    refine⟨k+1,hnext rfl,Wk.mkG [(4,some 4),(30,some 31)] rfl rfl rfl rfl rfl ?_ ?_ rfl rfl (fun _ _=>trivial),by omega⟩
    ·repeat (first|exact trivial|refine⟨⟨_,rfl,by first|exact LeA.c (LeC.ptB _ _ _ _ rfl)|exact leT⟩,?_⟩)
    ·exact⟨hSm,HeapOk.row rfl rfl rfl (fun _ _=>zY ⟨rfl,rfl⟩),zQ rfl rfl ⟨LeC.refl _ rfl,LeC.refl _ rfl,LeC.refl _ rfl,LeC.refl _ rfl,LeC.refl _ rfl,LeC.ow _ _ rfl,trivial⟩ rfl,trivial⟩
abbrev stR(l:List Stp):AB:=⟨true,l.length,8,77,zAd stC stZ l⟩
theorem zCR(s:Stp):(stC s).all zM=true:=rfl
def zBh(p:Pb):Nat→List Int→List Stp
 |0,_=> []
 |m+1,ch=>(List.range (p.C.getD ch.length []).length).flatMap fun c=>zA7 p ch c::(if (zA7 p ch c).dp=true then zBh p m (ch++ [(c:Int)])else [])
def zDh(p:Pb):Nat→List Int→Prop
 |0,_=>False
 |m+1,ch=>∀c:Nat,c<(p.C.getD ch.length []).length→(zA7 p ch c).dp=true→zDh p m (ch++ [(c:Int)])
def zDM(p:Pb)(m:Nat)(ch:List Int)(c:Nat):List Stp:=zA7 p ch c::(if (zA7 p ch c).dp=true then zBh p m (ch++ [(c:Int)])else [])
def zBJ(p:Pb)(m:Nat)(ch:List Int)(c:Nat):List Stp:=(List.range c).flatMap (zDM p m ch)
theorem zKb{p:Pb}{m:Nat}{ch:List Int}{c:Nat}:zBJ p m ch (c+1)=zBJ p m ch c++zDM p m ch c:=by
 unfold zBJ;rw[List.range_succ,List.flatMap_append]
 simp
theorem zOE{p:Pb}{m:Nat}{ch:List Int}{c n:Nat}(h:c≤n):(zBJ p m ch c).length≤(zBJ p m ch n).length:=by
 induction n with
 |zero=>obtain rfl:c=0:=Nat.le_zero.1 h;exact Nat.le_refl _
 | succ n ih=>
   by_cases e:c=n+1
   ·rw[e];exact Nat.le_refl _
   ·rw[zKb,List.length_append]
    have:=ih xD
    omega
abbrev bxT(q:Nat):AB:=⟨false,1,1,118,lF [.pt q 6 0 0]⟩
abbrev bxO(r:Nat):AB:=⟨false,1,1,73,lF [.ow r]⟩
abbrev wkC(p:Pb)(a b c:Nat)(i:Nat):CV:= [.pt a 1 0 0,plP p,.pt b 1 0 0,.pt c 1 0 0].getD i .any
abbrev bxW(p:Pb)(a b c:Nat):AB:=⟨false,1,1,1,lF [.fn 79 4 (wkC p a b c)]⟩
theorem zGD{h:Nat→Option AB}{ren:List (Nat×Option Nat)}{p:Pb}{a b c:Nat}(ha:Nat.ble 1000 a=true)(hb:Nat.ble 1000 b=true)(hc:Nat.ble 1000 c=true):LeC h ren (.fn 79 4 (wkC p a b c)) (.fn 79 4 (wkC p a b c)):=
 LeC.fn _ 4 _ _ (fun i hi=>by
  obtain rfl|rfl|rfl|rfl:i=0∨i=1∨i=2∨i=3:=by omega
  all_goals exact⟨trivial,trivial⟩) fun i hi=>by
  obtain rfl|rfl|rfl|rfl:i=0∨i=1∨i=2∨i=3:=by omega
  ·exact .ptB _ _ _ _ ha
  ·exact .refl _ rfl
  ·exact .ptB _ _ _ _ hb
  ·exact .ptB _ _ _ _ hc
theorem zLG{S:St}{ids mids l:List Nat}{o q:Nat}{bs:List AB}(i:Nat)(hp:S.h o=some (bxT q))(hq:zT ids q=some i)(h:zBl S ids mids l bs):zBl S ids mids (o::l) (bxT (1000+i)::bs):=
 ⟨⟨_,hp,(fun h=>by cases h),fun k hk j hj=>by
   obtain rfl:k=0:=Nat.lt_one_iff.mp hk;obtain rfl:j=0:=Nat.lt_one_iff.mp hj;exact .b (.pt _ _ _ _ _ hq)⟩,h⟩
theorem zLF{ids ni:List Nat}{q:Nat}{l m:List AB}(i:Nat)(hq:zT ids q=some i)(h:zBd ids ni l m):zBd ids ni (bxT (1000+i)::l) (bxT q::m):=
 ⟨⟨_,rfl,fun k hk j hj=>by
   obtain rfl:k=0:=Nat.lt_one_iff.mp hk;obtain rfl:j=0:=Nat.lt_one_iff.mp hj;exact .b (.pt _ _ _ _ _ hq)⟩,h⟩
theorem zLE{S:St}{ids mids l:List Nat}{o q:Nat}{bs:List AB}(i:Nat)(hp:S.h o=some (bxO q))(hq:zT mids q=some i)(h:zBl S ids mids l bs):zBl S ids mids (o::l) (bxO (800+i)::bs):=
 ⟨⟨_,hp,(fun h=>by cases h),fun k hk j hj=>by
   obtain rfl:k=0:=Nat.lt_one_iff.mp hk;obtain rfl:j=0:=Nat.lt_one_iff.mp hj;exact .b (.mv _ _ hq)⟩,h⟩
theorem zLD{ids ni:List Nat}{q:Nat}{l m:List AB}(i:Nat)(hq:zT ni q=some i)(h:zBd ids ni l m):zBd ids ni (bxO (900+i)::l) (bxO q::m):=
 ⟨⟨_,rfl,fun k hk j hj=>by
   obtain rfl:k=0:=Nat.lt_one_iff.mp hk;obtain rfl:j=0:=Nat.lt_one_iff.mp hj;exact .b (.owN _ _ hq)⟩,h⟩
theorem zLI{S:St}{ids mids l:List Nat}{p:Pb}{o a b c:Nat}{bs:List AB}(i j k:Nat)(hp:S.h o=some (bxW p a b c))(ha:zT ids a=some i)(hb:zT ids b=some j)(hc:zT ids c=some k)(h:zBl S ids mids l bs):zBl S ids mids (o::l) (bxW p (1000+i) (1000+j) (1000+k)::bs):=
 ⟨⟨_,hp,(fun h=>by cases h),fun n hn m hm=>by
   obtain rfl:n=0:=Nat.lt_one_iff.mp hn;obtain rfl:m=0:=Nat.lt_one_iff.mp hm;refine .fn _ 4 _ _ fun x hx=> ?_
   obtain rfl|rfl|rfl|rfl:x=0∨x=1∨x=2∨x=3:=by omega
   ·exact .pt _ _ _ _ _ ha
   ·exact .imm _ rfl
   ·exact .pt _ _ _ _ _ hb
   ·exact .pt _ _ _ _ _ hc⟩,h⟩
theorem zLH{ids ni:List Nat}{p:Pb}{a b c:Nat}{l m:List AB}(i j k:Nat)(ha:zT ids a=some i)(hb:zT ids b=some j)(hc:zT ids c=some k)(h:zBd ids ni l m):zBd ids ni (bxW p (1000+i) (1000+j) (1000+k)::l) (bxW p a b c::m):=
 ⟨⟨_,rfl,fun n hn m hm=>by
   obtain rfl:n=0:=Nat.lt_one_iff.mp hn;obtain rfl:m=0:=Nat.lt_one_iff.mp hm;refine .fn _ 4 _ _ fun x hx=>⟨?_,?_,?_⟩
   all_goals obtain rfl|rfl|rfl|rfl:x=0∨x=1∨x=2∨x=3:=by omega
   ·exact .pt _ _ _ _ _ ha
   ·exact .imm _ rfl
   ·exact .pt _ _ _ _ _ hb
   ·exact .pt _ _ _ _ _ hc
   all_goals
    intro _ _ _ e
    cases e⟩,h⟩
abbrev wkL(p:Pb)(ch:List Int)(out:List Stp)(q r:Nat):List AB:= [bxT 1001,tbB p q,bxO r,bxW p 1000 1002 1003]
theorem zOF(p:Pb)(hp:p.fit):∀(m:Nat) (ch:List Int) (out:List Stp),ch.length+m=p.C.length→ChOk p ch→zDh p m ch→out.length+(zBh p m ch).length≤1000000→
 zEs Try.prog 79 [.c (.pt 1000 1 0 0),.c (plP p),.c (.pt 1002 1 0 0),.c (.pt 1003 1 0 0)] (wkL p ch out 800 801) [chI ch,stR out] (.tu []) (wkL p ch (out++zBh p m ch) 900 901) [chI ch,stR (out++zBh p m ch)]
 |0,_,_,_,_,h,_=>h.elim
 | m + 1,ch,out,hm,hc,hd,hlen=>by
   have hi:ch.length<p.C.length:=by omega
   have lC:=hp.c;have lO:=hp.o;have hL32:=hp.l _ (zAJ (L:=p.C) (k:=ch.length) (z:= []) hi);have hcF:chF p.C ch.length 0=lsB (p.C.getD ch.length []):=rfl;have h80:((800+0,chI ch):Nat×AB).snd.n=ch.length:=rfl;have hih:=zOF p hp m;have hwv:zBh p (m+1) ch=zBJ p m ch (p.C.getD ch.length []).length:=rfl;rw[hwv]at hlen⊢;have hst:=zSS p hp ch hc
   obtain⟨n,hn⟩:∃n,(p.C.getD ch.length []).length=n:=⟨_,rfl⟩
   rw[hn]at hlen⊢;refine zF4 Try.func79 rfl rfl Try.ntmps79 rfl ?_
   repeat (first
    |refine vB [0] ?_
    | (refine rG 1 ?_
       refine xE3 ?_;refine zG (aP (k:=ch.length) zA) ?_;refine zAk zA (hcF) rfl rfl rfl rfl rfl oM ?_;refine xE2 ?_;refine aB ?_))
   refine AWp.round (fun c:Nat=>mkG (fun _=>True) 0 false 52 4 [(0,.c (.pt 1000 1 0 0)),(1,.c (plP p)),(2,.c (.pt 1002 1 0 0)),(3,.c (.pt 1003 1 0 0)),(4,.c (iC (ch.length:Nat))),(17,.c (iC (n:Nat))),(18,.c (iC (c:Nat)))] [(30,chI ch),(31,stR (out++zBJ p m ch c)),(1000,bxT 1001),(1001,tbB p 30),(1002,bxO 31),(1003,bxW p 1000 1002 1003)] [30,31]) (fun c=>c≤n) (fun c=>n-c) 0 (Nat.zero_le _) ?_ (fun c hcn=> ?_)
   ·refine Wk.mkG [(30,some 800),(31,some 801)] rfl rfl rfl rfl rfl ?_ ?_ rfl rfl (fun _ _=>trivial)
    ·rw[←hn]
     repeat (first|exact trivial|refine⟨⟨_,rfl,by first|exact LeA.c (LeC.ptB _ _ _ _ rfl)|exact leT⟩,?_⟩)
    ·exact⟨HeapOk.row rfl rfl rfl (fun _ _=>zY ⟨rfl,rfl⟩),HeapOk.row rfl rfl (by rw[show zBJ p m ch 0= []from rfl,List.append_nil]) (fun i _ j _=>⟨by rw[show zBJ p m ch 0= []from rfl,List.append_nil],zN zCR _ i j⟩),
     zQ rfl rfl ⟨LeC.ptB _ _ _ _ rfl,trivial⟩ rfl,zQ rfl rfl ⟨LeC.refl _ rfl,LeC.refl _ rfl,LeC.refl _ rfl,LeC.refl _ rfl,LeC.refl _ rfl,LeC.ow _ _ rfl,trivial⟩ rfl,zQ rfl rfl ⟨LeC.ow _ _ rfl,trivial⟩ rfl,zQ rfl rfl ⟨zGD rfl rfl rfl,trivial⟩ rfl,trivial⟩
   by_cases hcl:c<n;rotate_left
   ·have hcl':¬(c:Int)<n:=by omega
    obtain rfl:c=n:=by omega
    refine vB [2] ?_
    refine⟨mkG (fun _=>True) 0 false 52 4 [] (zAt [chI ch,stR (out++zBJ p m ch c)] (wkL p ch out 900 901)) [900,901],[],_,_,_,⟨rfl,rfl,rfl⟩,rfl,Wk.mkG [(900,some 30),(901,some 31)] rfl rfl rfl rfl rfl trivial ?_ rfl rfl (fun _ _=>trivial),rfl,rfl,GRets.no⟩
    exact⟨HeapOk.row rfl rfl rfl (fun _ _=>zY ⟨rfl,rfl⟩),hrF zCR,
     zQ rfl rfl ⟨LeC.ptB _ _ _ _ rfl,trivial⟩ rfl,zQ rfl rfl ⟨LeC.refl _ rfl,LeC.refl _ rfl,LeC.refl _ rfl,LeC.refl _ rfl,LeC.refl _ rfl,LeC.ow _ _ rfl,trivial⟩ rfl,zQ rfl rfl ⟨LeC.ow _ _ rfl,trivial⟩ rfl,zQ rfl rfl ⟨zGD rfl rfl rfl,trivial⟩ rfl,trivial⟩
   have hcl':(c:Int)<n:=by omega
   have hsc:=hst c hi (by rw[hn];exact hcl)
   have hdd:(zA7 p ch c).dp=true→zDh p m (ch++ [(c:Int)]):=hd c (by rw[hn];exact hcl)
   have hck:ChOk p (ch++ [(c:Int)]):=hc.snoc (hp.pk hi (by rw[hn];exact hcl))
   have hws:zBJ p m ch (c+1)=zBJ p m ch c++(zA7 p ch c::(if (zA7 p ch c).dp=true then zBh p m (ch++ [(c:Int)])else [])):=zKb;have hwl:=zOE (p:=p) (m:=m) (ch:=ch) (show c+1≤n by omega)
   obtain⟨O,hO⟩:∃O,out++zBJ p m ch c=O:=⟨_,rfl⟩
   have hOl:O.length≤1000000:=by
    have:=zOE (p:=p) (m:=m) (ch:=ch) (show c≤n by omega);rw[←hO,List.length_append];omega
   have h81:((31,stR O):Nat×AB).snd.n=O.length:=rfl;have hO2:out++zBJ p m ch (c+1)=(O++ [zA7 p ch c])++(if (zA7 p ch c).dp=true then zBh p m (ch++ [(c:Int)])else []):=by
    rw[hws,←List.append_assoc,hO,List.append_assoc]
    rfl
   rw[hO];have hO2l:(out++zBJ p m ch (c+1)).length≤1000000:=by rw[List.length_append];omega
   obtain⟨s,hs⟩:∃s,zA7 p ch c=s:=⟨_,rfl⟩
   rw[hs]at hsc hdd hO2
   obtain⟨nm,sc,wi,rd,dp,cl⟩:=s
   cases dp with
   | false=>
     rw[hO2,show(if (⟨nm,sc,wi,rd,false,cl⟩:Stp).dp=true then zBh p m (ch++ [(c:Int)])else [])= []from rfl,List.append_nil]at hO2l;rw[show(if (⟨nm,sc,wi,rd,false,cl⟩:Stp).dp=true then zBh p m (ch++ [(c:Int)])else [])= []from rfl,List.append_nil]at hO2
     repeat (first
      |refine vB [2,3,6,10] ?_
      | (refine rG 4 ?_
         refine xE2 ?_;refine zBT [1001] [30] [33] [tbB p 800] [chI ch] [tbB p 900] [chI ch] [tbB p 33] [chI ch] rfl rfl FnV.func rfl Try.func80 rfl xC (zCd 0 rfl rfl trivial) (⟨⟨_,rfl,rfl,fun _ _ _ _=>⟨rfl,rfl⟩⟩,trivial⟩) rfl (by exact⟨.c (.b (.pt 1001 0 6 0 0 rfl)),.c (.b (.imm _ rfl)),trivial⟩) (.ag (zFT (zCR _))) (zCD 0 rfl trivial) (⟨⟨_,rfl,fun _ _ _ _=>.imm _ rfl⟩,trivial⟩) (hsc) ?_;refine xE2 ?_;refine aB ?_)
      | (refine rG 5 ?_
         refine xE3 ?_;refine zCt zA rfl rfl rfl rfl rfl rfl rfl rfl rfl rfl oM oM ?_;refine vA ?_;refine aB ?_))
     refine⟨c+1,hcl,?_,by omega⟩
     rw[hO2];refine Wk.mkG [(30,some 33),(31,some 27)] rfl rfl rfl rfl rfl ?_ ?_ rfl rfl (fun _ _=>trivial)
     ·repeat (first|exact trivial|refine⟨⟨_,rfl,by first|exact LeA.c (LeC.ptB _ _ _ _ rfl)|exact leT⟩,?_⟩)
     ·exact⟨HeapOk.row rfl rfl rfl (fun _ _=>zY ⟨rfl,rfl⟩),HeapOk.row rfl rfl List.length_append (zCB _ _ zCR rfl),
       zQ rfl rfl ⟨LeC.ptB _ _ _ _ rfl,trivial⟩ rfl,zQ rfl rfl ⟨LeC.refl _ rfl,LeC.refl _ rfl,LeC.refl _ rfl,LeC.refl _ rfl,LeC.refl _ rfl,LeC.ow _ _ rfl,trivial⟩ rfl,zQ rfl rfl ⟨LeC.ow _ _ rfl,trivial⟩ rfl,zQ rfl rfl ⟨zGD rfl rfl rfl,trivial⟩ rfl,trivial⟩
   | true=>
     rw[hO2,List.length_append]at hO2l
     replace hO2l:(O++ [(⟨nm,sc,wi,rd,true,cl⟩:Stp)]).length+(zBh p m (ch++ [(c:Int)])).length≤1000000:=hO2l
     replace hO2:out++zBJ p m ch (c+1)=(O++ [(⟨nm,sc,wi,rd,true,cl⟩:Stp)])++zBh p m (ch++ [(c:Int)]):=hO2
     have hw:=hih (ch++ [(c:Int)]) (O++ [(⟨nm,sc,wi,rd,true,cl⟩:Stp)]) (by rw[List.length_append,List.length_singleton];omega) hck (hdd rfl) hO2l
     rw[←hO2]at hw
     obtain⟨O2,hO22⟩:∃O2,out++zBJ p m ch (c+1)=O2:=⟨_,rfl⟩
     rw[hO22]at hw hO2
     repeat (first
      |refine vB [2,3,6] ?_
      | (refine rG 4 ?_
         refine xE2 ?_;refine zBT [1001] [30] [33] [tbB p 800] [chI ch] [tbB p 900] [chI ch] [tbB p 33] [chI ch] rfl rfl FnV.func rfl Try.func80 rfl xC (zCd 0 rfl rfl trivial) (⟨⟨_,rfl,rfl,fun _ _ _ _=>⟨rfl,rfl⟩⟩,trivial⟩) rfl (by exact⟨.c (.b (.pt 1001 0 6 0 0 rfl)),.c (.b (.imm _ rfl)),trivial⟩) (.ag (zFT (zCR _))) (zCD 0 rfl trivial) (⟨⟨_,rfl,fun _ _ _ _=>.imm _ rfl⟩,trivial⟩) (hsc) ?_;refine xE2 ?_;refine aB ?_)
      | (refine rG 5 ?_
         refine xE3 ?_;refine zCt zA rfl rfl rfl rfl rfl rfl rfl rfl rfl rfl oM oM ?_;refine vA ?_;refine aB ?_)
      |(refine AWp.draw (id:=7) zL ?_;refine xE7 ?_;refine zCt zA rfl rfl rfl rfl rfl rfl rfl rfl rfl rfl oM oM ?_;refine xE3 ?_;refine aB ⟨by kernel_rfl,?_⟩))
     refine AWp.weak (S':=mkG (fun _=>True) 0 false 52 4 [(0,.c (.pt 1000 1 0 0)),(1,.c (plP p)),(2,.c (.pt 1002 1 0 0)),(3,.c (.pt 1003 1 0 0)),(4,.c (iC (ch.length:Nat))),(17,.c (iC (n:Nat))),(18,.c (iC (c:Nat)))] [(30,chI (ch++ [(c:Int)])),(31,stR (O++ [(⟨nm,sc,wi,rd,true,cl⟩:Stp)])),(1000,bxT 1001),(1001,tbB p 30),(1002,bxO 31),(1003,bxW p 1000 1002 1003)] [30,31]) (Wk.mkG [(30,some 37),(31,some 27)] rfl rfl rfl rfl rfl ?_ ?_ rfl rfl (fun _ _=>trivial)) ?_
     ·repeat (first|exact trivial|refine⟨⟨_,rfl,by first|exact LeA.c (LeC.ptB _ _ _ _ rfl)|exact leT⟩,?_⟩)
     ·exact⟨HeapOk.row rfl rfl List.length_append (zEz ch c),HeapOk.row rfl rfl List.length_append (zCB _ _ zCR rfl),
      zQ rfl rfl ⟨LeC.ptB _ _ _ _ rfl,trivial⟩ rfl,zQ rfl rfl ⟨LeC.refl _ rfl,LeC.refl _ rfl,LeC.refl _ rfl,LeC.refl _ rfl,LeC.refl _ rfl,LeC.ow _ _ rfl,trivial⟩ rfl,zQ rfl rfl ⟨LeC.ow _ _ rfl,trivial⟩ rfl,zQ rfl rfl ⟨zGD rfl rfl rfl,trivial⟩ rfl,trivial⟩
     have h34:ch.length≤((34,chI (ch++ [(c:Int)])):Nat×AB).snd.n:=by show _≤(ch++ [(c:Int)]).length;rw[List.length_append];omega
     repeat (first
      |refine vB [10] ?_
      | (refine rG 8 ?_
         refine vA ?_;refine zBT [1000,1001,1002,1003] [30,31] [34,35] (wkL p ch O 800 801) [chI (ch++ [(c:Int)]),stR (O++ [(⟨nm,sc,wi,rd,true,cl⟩:Stp)])] (wkL p ch O 900 901) [chI (ch++ [(c:Int)]),stR O2] (wkL p ch O 34 35) [chI (ch++ [(c:Int)]),stR O2] rfl rfl (FnV.fn 4 (wkC p 1000 1002 1003) rfl rfl) rfl Try.func79 rfl xC (zLG 1 rfl rfl (zCd 0 rfl rfl (zLE 1 rfl rfl (zLI 0 2 3 rfl rfl rfl rfl trivial)))) (⟨⟨_,rfl,rfl,fun _ _ _ _=>⟨rfl,rfl⟩⟩,⟨_,rfl,rfl,fun i _ j _=>⟨rfl,zN zCR _ i j⟩⟩,trivial⟩) rfl (by exact⟨.c (.b (.pt 1000 0 1 0 0 rfl)),.c (.b (.imm _ rfl)),.c (.b (.pt 1002 2 1 0 0 rfl)),.c (.b (.pt 1003 3 1 0 0 rfl)),trivial⟩) (.tu (l:= []) (m:= []) trivial) (zLF 1 rfl (zCD 0 rfl (zLD 1 rfl (zLH 0 2 3 rfl rfl rfl trivial)))) (⟨⟨_,rfl,fun _ _ _ _=>.imm _ rfl⟩,⟨_,rfl,fun i _ j _=>.imm _ (zN zCR _ i j)⟩,trivial⟩) (hw) ?_;refine aB ?_)
      |(refine AWp.draw (id:=9) zL ?_;refine xE6 ?_;refine zKp (m:=ch.length) zA rfl rfl rfl rfl rfl rfl rfl rfl rfl ⟨_,_,rfl,by first|rfl|omega⟩ xD ?_;refine xE3 ?_;refine aB ⟨by kernel_rfl,?_⟩))
     refine⟨c+1,hcl,?_,by omega⟩
     rw[hO22];refine Wk.mkG [(30,some 48),(31,some 35)] rfl rfl rfl rfl rfl ?_ ?_ rfl rfl (fun _ _=>trivial)
     ·repeat (first|exact trivial|refine⟨⟨_,rfl,by first|exact LeA.c (LeC.ptB _ _ _ _ rfl)|exact leT⟩,?_⟩)
     ·exact⟨HeapOk.row rfl rfl rfl (fun k hk=>zY ⟨congrArg iC (zFd hk),rfl⟩),hrF zCR,
      zQ rfl rfl ⟨LeC.ptB _ _ _ _ rfl,trivial⟩ rfl,zQ rfl rfl ⟨LeC.refl _ rfl,LeC.refl _ rfl,LeC.refl _ rfl,LeC.refl _ rfl,LeC.refl _ rfl,LeC.ow _ _ rfl,trivial⟩ rfl,zQ rfl rfl ⟨LeC.ow _ _ rfl,trivial⟩ rfl,zQ rfl rfl ⟨zGD rfl rfl rfl,trivial⟩ rfl,trivial⟩
abbrev zAX(l:List Stp):CV:=.ls l.length 8 (zAd stC stZ l)
def zB1(p:Pb):List Stp×Int:=if zAr p=0 then (if zCE p=0 then (zBh p p.C.length [],0)else ([],zCE p))else ([],zAr p)
theorem zPs(p:Pb)(hp:p.ok)(hd:zAr p=0→zCE p=0→zDh p p.C.length []∧(zBh p p.C.length []).length≤1000000):ACalls Try.prog 51 [.ag (pbC p)] (.tu [.c (zAX (zB1 p).1),.c (iC (zB1 p).2)]):=by
 have hC:=zDz p hp;have hfit:= @zDf p hp;unfold zB1
 obtain⟨e,he⟩:∃e,zAr p=e:=⟨_,rfl⟩
 rw[he]at hC hd hfit⊢;by_cases h0:e=0;rotate_left
 ·rw [if_neg h0]
  refine zK Try.func51 rfl rfl Try.ntmps51 rfl ?_
  repeat (first
   |refine vB [0,2,3] ?_
   | (refine rG 1 ?_
      refine vA ?_;refine xB Try.func30 hC ?_;refine vA ?_;refine aB ?_))
  refine⟨zD 26 [(2,.c (zAX ([]))),(3,.c (iC (e)))] [] [],[],Wk.mk [] rfl rfl rfl ?_ trivial,rfl,rfl,ARets.two (x:=.c _) (y:=.c _) (ARes.tmp rfl rfl) (ARes.tmp rfl rfl)⟩
  exact⟨⟨_,rfl,.c (LeC.nils _ _)⟩,⟨_,rfl,.c (LeC.refl _ rfl)⟩,trivial⟩
 subst h0;have hU:=zTk p hp;rw[if_pos rfl]
 obtain⟨u,hu⟩:∃u,zCE p=u:=⟨_,rfl⟩
 rw[hu]at hU hd⊢;by_cases hu0:u=0;rotate_left
 ·rw [if_neg hu0]
  refine zK Try.func51 rfl rfl Try.ntmps51 rfl ?_
  repeat (first
   |refine vB [0,2,5,6] ?_
   | (refine rG 1 ?_
      refine vA ?_;refine xB Try.func30 hC ?_;refine vA ?_;refine aB ?_)
   | (refine rG 4 ?_
      refine vA ?_;refine xB Try.func78 hU ?_;refine vA ?_;refine aB ?_))
  refine⟨zD 26 [(2,.c (zAX ([]))),(3,.c (iC (u)))] [] [],[],Wk.mk [] rfl rfl rfl ?_ trivial,rfl,rfl,ARets.two (x:=.c _) (y:=.c _) (ARes.tmp rfl rfl) (ARes.tmp rfl rfl)⟩
  exact⟨⟨_,rfl,.c (LeC.nils _ _)⟩,⟨_,rfl,.c (LeC.refl _ rfl)⟩,trivial⟩
 subst hu0;rw[if_pos rfl]
 obtain⟨hd1,hd2⟩:=hd rfl rfl
 have hw:=zOF p (hfit rfl) p.C.length [] [] (Nat.zero_add _) (fun k hk=>absurd hk (Nat.not_lt_zero _)) hd1 (by simpa using hd2);rw[List.nil_append]at hw
 obtain⟨W,hW⟩:∃W,zBh p p.C.length []=W:=⟨_,rfl⟩
 rw[hW]at hw⊢;refine zK Try.func51 rfl rfl Try.ntmps51 rfl ?_
 repeat (first
  |refine vB [0,2,5,7,8,9] ?_
  | (refine rG 1 ?_
     refine vA ?_;refine xB Try.func30 hC ?_;refine vA ?_;refine aB ?_)
  | (refine rG 4 ?_
     refine vA ?_;refine xB Try.func78 hU ?_;refine vA ?_;refine aB ?_)
  | (refine rG 10 ?_
     refine qr5 zC9 ?_;refine vA ?_;refine aB ?_))
 refine AWp.weak (S':=zD 26 [(6,.c (.pt 6 1 0 0)),(8,.c (.pt 8 1 0 0))] [(7,bxT 21),(21,tbB p 30),(6,bxO 31),(8,bxW p 7 6 8),(30,chI []),(31,stR [])] [6,7,8,21,30,31]) (Wk.mk [(6,some 6),(7,some 7),(8,some 8),(21,some 21),(30,none),(31,none)] rfl rfl rfl ?_ ?_) ?_
 ·exact zC
 ·refine⟨HeapOk.box rfl rfl ⟨LeC.pt _ _ _ _ _ rfl,trivial⟩ rfl,HeapOk.box rfl rfl ⟨LeC.refl _ rfl,LeC.refl _ rfl,LeC.refl _ rfl,LeC.refl _ rfl,LeC.refl _ rfl,LeC.nil _ rfl,trivial⟩ rfl,HeapOk.box rfl rfl ⟨LeC.nil _ rfl,trivial⟩ rfl,HeapOk.box rfl rfl ⟨LeC.fn _ 4 _ _ (fun i hi=> ?_) (fun i hi=> ?_),trivial⟩ rfl,HeapOk.nil rfl rfl,HeapOk.nil rfl rfl,trivial⟩
  all_goals
   obtain rfl|rfl|rfl|rfl:i=0∨i=1∨i=2∨i=3:=by omega
  ·exact⟨trivial,trivial⟩
  ·exact⟨trivial,trivial⟩
  ·exact⟨trivial,trivial⟩
  ·exact⟨trivial,trivial⟩
  ·exact .pt _ _ _ _ _ rfl
  ·exact zBq rfl rfl rfl rfl
  ·exact .pt _ _ _ _ _ rfl
  ·exact .pt _ _ _ _ _ rfl
 repeat (first
  |refine vB [12] ?_
  | (refine rG 11 ?_
     refine vA ?_;refine zBT [7,21,6,8] [30,31] [34,35] (wkL p [] [] 800 801) [chI [],stR []] (wkL p [] W 900 901) [chI [],stR W] [bxT 21,tbB p 34,bxO 35,bxW p 7 6 8] [chI [],stR W] rfl rfl (FnV.fn 4 (wkC p 7 6 8) rfl rfl) rfl Try.func79 rfl xC (zLG 1 rfl rfl (zCd 0 rfl rfl (zLE 1 rfl rfl (zLI 0 2 3 rfl rfl rfl rfl trivial)))) (⟨⟨_,rfl,rfl,fun _ _ _ _=>⟨rfl,rfl⟩⟩,⟨_,rfl,rfl,fun i _ j _=>⟨rfl,zN zCR _ i j⟩⟩,trivial⟩) rfl (by exact⟨.c (.b (.pt 7 0 1 0 0 rfl)),.c (.b (.imm _ rfl)),.c (.b (.pt 6 2 1 0 0 rfl)),.c (.b (.pt 8 3 1 0 0 rfl)),trivial⟩) (.tu (l:= []) (m:= []) trivial) (zLF 1 rfl (zCD 0 rfl (zLD 1 rfl (zLH 0 2 3 rfl rfl rfl trivial)))) (⟨⟨_,rfl,fun _ _ _ _=>.imm _ rfl⟩,⟨_,rfl,fun i _ j _=>.imm _ (zN zCR _ i j)⟩,trivial⟩) (hw) ?_;refine aB ?_))
 refine⟨zD 26 [(2,.c (zAX (W))),(3,.c (iC (0)))] [] [],[],Wk.mk [] rfl rfl rfl ?_ trivial,rfl,rfl,ARets.two (x:=.c _) (y:=.c _) (ARes.tmp rfl rfl) (ARes.tmp rfl rfl)⟩
 exact⟨⟨_,rfl,.c (zAp rfl rfl rfl (fun i _ j _=>⟨rfl,zN zCR _ i j⟩))⟩,⟨_,rfl,.c (LeC.refl _ rfl)⟩,trivial⟩
def zFB(p:Pb)(H:List Hg)(rp:List Int):Nat→Nat→List (List Stp)→List (List Stp)×Int
 |0,_,out=>(out,0)
 |d+1,k,out=>if (zAe p H (rp.eraseIdx k)).2=0 then (if (zB1 (zAe p H (rp.eraseIdx k)).1).2=0 then zFB p H rp d (k+1) (out++ [(zB1 (zAe p H (rp.eraseIdx k)).1).1])else ([],(zB1 (zAe p H (rp.eraseIdx k)).1).2))else ([],(zAe p H (rp.eraseIdx k)).2)
def zEY(p:Pb)(H:List Hg)(x:Pl):List (List Stp)×Int:=if zDm p H x=true then zFB p H x.rp x.rp.length 0 []else ([],1)
abbrev lsW(L:List (List Stp)):CV:=.ls L.length 1 (fun k _=>zAX (L.getD k []))
abbrev whB(L:List (List Stp)):AB:=⟨true,L.length,1,73,fun k _=>zAX (L.getD k [])⟩
theorem zTD(L:List (List Stp))(x:List Stp):∀i,i<L.length+1→∀j,j<1→zAg (fun k _=>zAX (L.getD k [])) L.length (sF [zAX x] 1) i j=zAX ((L++ [x]).getD i [])∧zM (zAg (fun k _=>zAX (L.getD k [])) L.length (sF [zAX x] 1) i j)=true:=fun i hi j hj=>by
 obtain rfl:j=0:=Nat.lt_one_iff.mp hj;unfold zAg;by_cases h:i<L.length
 ·rw[Nat.blt_eq.mpr h,List.getD_eq_getElem?_getD (l:=L++ [x]),List.getElem?_append_left h,←List.getD_eq_getElem?_getD]
  exact⟨rfl,rfl⟩
 ·obtain rfl:i=L.length:=by omega
  rw[show Nat.blt L.length L.length=false from Bool.eq_false_iff.2 fun e=>h (Nat.blt_eq.mp e),List.getD_eq_getElem?_getD (l:=L++ [x]),List.getElem?_append_right (Nat.le_refl _),Nat.sub_self]
  exact⟨rfl,rfl⟩
theorem zJI{ids ni:List Nat}{l:List Int}:BackA ids ni (.c (lsI l)) (.c (lsI l)):=.c (.imm _ rfl)
theorem zLh(p:Pb)(hp:p.ok)(H:List Hg)(hH:zDA H)(x:Pl)(hx:zH9 x)(hd:∀k,k<x.rp.length→(zAe p H (x.rp.eraseIdx k)).2=0→zCE (zAe p H (x.rp.eraseIdx k)).1=0→zDh (zAe p H (x.rp.eraseIdx k)).1 (zAe p H (x.rp.eraseIdx k)).1.C.length []∧(zBh (zAe p H (x.rp.eraseIdx k)).1 (zAe p H (x.rp.eraseIdx k)).1.C.length []).length≤1000000):
 ACalls Try.prog 20 [.ag (pbC p),.c (lsH H),.ag (plC x)] (.tu [.c (lsW (zEY p H x).1),.c (iC (zEY p H x).2)]):=by
 have hHo:=zH3 p hp H hH x hx
 obtain⟨hx1,hx2,hx3⟩:=hx
 obtain⟨V,hV⟩:∃V,zEY p H x=V:=⟨_,rfl⟩
 rw[hV];unfold zEY at hV;generalize zDm p H x=b at *
 cases b with
 | false=>
   obtain rfl:([],(1:Int))=V:=hV;refine zK Try.func20 rfl rfl Try.ntmps20 rfl ?_
   repeat (first
    |refine vB [0,2] ?_
    | (refine rG 1 ?_
       refine xE3 ?_;refine xB Try.func15 hHo ?_;refine vA ?_;refine aB ?_))
   refine⟨zD 54 [(6,.c (lsW ([]))),(7,.c (iC (1)))] [] [],[],Wk.mk [] rfl rfl rfl ?_ trivial,rfl,rfl,ARets.two (x:=.c _) (y:=.c _) (ARes.tmp rfl rfl) (ARes.tmp rfl rfl)⟩
   exact⟨⟨_,rfl,.c (LeC.nils _ _)⟩,⟨_,rfl,.c (LeC.refl _ rfl)⟩,trivial⟩
 |true=>
 rw[if_pos rfl]at hV
 obtain⟨rp,hrp⟩:∃rp,x.rp=rp:=⟨_,rfl⟩
 have hcp:lF (plC x) 0 0=lsI rp:=by rw[←hrp];rfl
 rw[hrp]at hV hd hx1;refine zK Try.func20 rfl rfl Try.ntmps20 rfl ?_
 repeat (first
  |refine vB [0,3,4] ?_
  | (refine rG 1 ?_
     refine xE3 ?_;refine xB Try.func15 hHo ?_;refine vA ?_;refine aB ?_))
 refine AWp.round (fun s:Nat×List (List Stp)=>(fun (k:Nat) (out:List (List Stp))=>zD 54 [(1,.c (lsH H)),(3,.c (zDJ p)),(5,.c (.pl 1 3 (lF (plC x)) 0 0)),(8,.c (.ow 20)),(19,.c (lsI rp)),(20,.c (iC (rp.length:Nat))),(21,.c (iC (k:Nat)))] [(20,whB out)] [20]) s.1 s.2) (fun s=>s.1≤rp.length∧s.2.length≤s.1∧zFB p H rp (rp.length-s.1) s.1 s.2=V) (fun s=>rp.length-s.1) (0,[]) ⟨Nat.zero_le _,Nat.le_refl _,hV⟩ ?_ (fun s hs=> ?_)
 ·subst hrp
  refine Wk.mk [(20,none)] rfl rfl rfl ?_ ?_
  ·repeat (first|exact trivial|refine⟨⟨_,rfl,by first|exact LeA.c (zBq rfl rfl rfl rfl)|exact leT⟩,?_⟩)
  ·exact⟨HeapOk.nil rfl rfl,trivial⟩
 obtain⟨k,out⟩:=s
 obtain⟨hk,hol,hV⟩:=hs
 dsimp only at hk hol hV⊢;by_cases hkl:k<rp.length;rotate_left
 ·have hkl':¬(k:Int)<rp.length:=by omega
  rw[show rp.length-k=0 by omega]at hV;obtain rfl:(out,(0:Int))=V:=hV;refine vB [5,15] ?_
  refine⟨zD 54 [(6,.c (lsW (out))),(7,.c (iC (0)))] [] [],[],Wk.mk [] rfl rfl rfl ?_ trivial,rfl,rfl,ARets.two (x:=.c _) (y:=.c _) (ARes.tmp rfl rfl) (ARes.tmp rfl rfl)⟩
  exact⟨⟨_,rfl,.c (zAp rfl rfl rfl (fun _ _ _ _=>⟨rfl,rfl⟩))⟩,⟨_,rfl,.c (LeC.refl _ rfl)⟩,trivial⟩
 have hkl':(k:Int)<rp.length:=by omega
 have hd:=hd k hkl;have hCl:=zKW rp.length (fI rp) hx1;have hDe:=zPc rp k hkl hx1;have hle:(rp.eraseIdx k).length≤1000000:=by rw[List.length_eraseIdx_of_lt hkl];omega
 have hW:=zE7 p hp H hH (rp.eraseIdx k) hle;have hwc:= @zGC p H (rp.eraseIdx k);rw[show rp.length-k=(rp.length-(k+1))+1 by omega]at hV;unfold zFB at hV;have hok:=fun h:(zAe p H (rp.eraseIdx k)).2=0=>show(zAe p H (rp.eraseIdx k)).1.ok by rw[(hwc h).1];exact zFS _ hp hH (hwc h).2.1
 clear hwc
 obtain⟨rk,hrk⟩:∃rk,rp.eraseIdx k=rk:=⟨_,rfl⟩
 rw[hrk]at hd hDe hle hW hV hok;generalize zAe p H rk=w at *
 obtain⟨q,e⟩:=w
 dsimp only at hd hW hV hok;by_cases h0:e=0;rotate_left
 ·rw[if_neg h0]at hV
  subst hV
  repeat (first
   |refine vB [5,6,8,9] ?_
   |(refine AWp.draw (id:=7) zL ?_;refine xE3 ?_;(first|refine zAk zA (hcp) rfl rfl rfl rfl rfl oM ?_|refine zAH zA rfl rfl rfl rfl rfl rfl rfl oM oM (hcp) ?_);refine AList.callG [] [29] [] [] [zAa rp.length (fI rp)] [] [zAa rp.length (fI rp)] rfl rfl FnV.func rfl Try.func43 rfl xC (trivial) rfl (.c (.owN 0 29 rfl)) (trivial) (⟨⟨_,rfl,fun i _ j _=>.imm _ rfl⟩,trivial⟩) (hCl) ?_;refine xE3 ?_;refine zBT [] [29] [] [] [zAa rp.length (fI rp)] [] [] [] [] rfl rfl FnV.func rfl Try.func50 rfl xC (trivial) (⟨⟨_,rfl,rfl,fun _ _ _ _=>⟨rfl,rfl⟩⟩,trivial⟩) rfl (by exact⟨.c (.b (.mv 29 0 rfl)),.c (.b (.imm _ rfl)),.c (.b (.imm _ rfl)),trivial⟩) (zJI) (trivial) (trivial) (hDe) ?_;refine xB Try.func11 hW ?_;refine xE6 ?_;refine aB ⟨by kernel_rfl,?_⟩))
  refine⟨zD 54 [(6,.c (lsW ([]))),(7,.c (iC (e)))] [] [],[],Wk.mk [] rfl rfl rfl ?_ trivial,rfl,rfl,ARets.two (x:=.c _) (y:=.c _) (ARes.tmp rfl rfl) (ARes.tmp rfl rfl)⟩
  exact⟨⟨_,rfl,.c (LeC.nils _ _)⟩,⟨_,rfl,.c (LeC.refl _ rfl)⟩,trivial⟩
 rw[if_pos h0]at hV;have hR:=zPs q (hok h0) (fun _=>hd h0);subst h0;generalize zB1 q=o at *
 obtain⟨sl,f⟩:=o
 dsimp only at hR hV;by_cases hf:f=0
 ·rw [if_pos hf]at hV
  subst hf;have hwa:=zTD out sl
  repeat (first
   |refine vB [5,6,8,11,14] ?_
   |(refine AWp.draw (id:=7) zL ?_;refine xE3 ?_;(first|refine zAk zA (hcp) rfl rfl rfl rfl rfl oM ?_|refine zAH zA rfl rfl rfl rfl rfl rfl rfl oM oM (hcp) ?_);refine AList.callG [] [29] [] [] [zAa rp.length (fI rp)] [] [zAa rp.length (fI rp)] rfl rfl FnV.func rfl Try.func43 rfl xC (trivial) rfl (.c (.owN 0 29 rfl)) (trivial) (⟨⟨_,rfl,fun i _ j _=>.imm _ rfl⟩,trivial⟩) (hCl) ?_;refine xE3 ?_;refine zBT [] [29] [] [] [zAa rp.length (fI rp)] [] [] [] [] rfl rfl FnV.func rfl Try.func50 rfl xC (trivial) (⟨⟨_,rfl,rfl,fun _ _ _ _=>⟨rfl,rfl⟩⟩,trivial⟩) rfl (by exact⟨.c (.b (.mv 29 0 rfl)),.c (.b (.imm _ rfl)),.c (.b (.imm _ rfl)),trivial⟩) (zJI) (trivial) (trivial) (hDe) ?_;refine xB Try.func11 hW ?_;refine xE6 ?_;refine aB ⟨by kernel_rfl,?_⟩)
   | (refine rG 10 ?_
      refine vA ?_;refine xB Try.func51 hR ?_;refine xE5 ?_;refine aB ?_)
   | (refine rG 13 ?_
      refine xE3 ?_;refine xA ?_;refine vA ?_;refine aB ?_))
  refine⟨(k+1,out++ [sl]),⟨hkl,by dsimp only;rw[List.length_append,List.length_singleton];omega,hV⟩,Wk.mk [(20,some 51)] rfl rfl rfl ?_ ?_,by dsimp only;omega⟩
  ·exact zC
  ·exact⟨HeapOk.row rfl rfl List.length_append (fun i hi j hj=>hwa i (by simpa using hi) j hj),trivial⟩
 ·rw [if_neg hf]at hV
  subst hV
  repeat (first
   |refine vB [5,6,8,11,12] ?_
   |(refine AWp.draw (id:=7) zL ?_;refine xE3 ?_;(first|refine zAk zA (hcp) rfl rfl rfl rfl rfl oM ?_|refine zAH zA rfl rfl rfl rfl rfl rfl rfl oM oM (hcp) ?_);refine AList.callG [] [29] [] [] [zAa rp.length (fI rp)] [] [zAa rp.length (fI rp)] rfl rfl FnV.func rfl Try.func43 rfl xC (trivial) rfl (.c (.owN 0 29 rfl)) (trivial) (⟨⟨_,rfl,fun i _ j _=>.imm _ rfl⟩,trivial⟩) (hCl) ?_;refine xE3 ?_;refine zBT [] [29] [] [] [zAa rp.length (fI rp)] [] [] [] [] rfl rfl FnV.func rfl Try.func50 rfl xC (trivial) (⟨⟨_,rfl,rfl,fun _ _ _ _=>⟨rfl,rfl⟩⟩,trivial⟩) rfl (by exact⟨.c (.b (.mv 29 0 rfl)),.c (.b (.imm _ rfl)),.c (.b (.imm _ rfl)),trivial⟩) (zJI) (trivial) (trivial) (hDe) ?_;refine xB Try.func11 hW ?_;refine xE6 ?_;refine aB ⟨by kernel_rfl,?_⟩)
   | (refine rG 10 ?_
      refine vA ?_;refine xB Try.func51 hR ?_;refine xE5 ?_;refine aB ?_))
  refine⟨zD 54 [(6,.c (lsW ([]))),(7,.c (iC (f)))] [] [],[],Wk.mk [] rfl rfl rfl ?_ trivial,rfl,rfl,ARets.two (x:=.c _) (y:=.c _) (ARes.tmp rfl rfl) (ARes.tmp rfl rfl)⟩
  exact⟨⟨_,rfl,.c (LeC.nils _ _)⟩,⟨_,rfl,.c (LeC.refl _ rfl)⟩,trivial⟩
end Go.Proofs.Ytbffmfeldkjkcaa
end
