/- Parts of the proof: A29h, A29i, A29j, A29k, A29l. -/
import Derived.Test.YtpefnljgalpllaaGreatG40
set_option linter.unusedSimpArgs false
set_option linter.unusedVariables false
set_option maxHeartbeats 0
set_option maxRecDepth 100000
section
namespace Go.Proofs.YtpefnljgalpllaaGreat
open Go.RowKit Go.Flow Go.AV Go.Plain
abbrev tbB(p:Pb)(q:Nat):AB:=⟨false,1,6,84,lF (pbC p++ [.ow q])⟩
abbrev chI(ch:List Int):AB:=zBk ch.length (fI ch)
def obB(p:Pb)(ch:List Int)(n:Int):Bp:=if n<0 then p.F.getD (-1-n).toNat bpZ else (p.C.getD n.toNat []).getD (fI ch n.toNat).toNat bpZ
def obG(p:Pb)(n:Int):Bg:=if n<0 then p.T.getD (-1-n).toNat bgZ else p.O.getD n.toNat bgZ
theorem obB_f{p:Pb}{ch:List Int}{k:Nat}:obB p ch (-1-(k:Int))=p.F.getD k bpZ∧obG p (-1-(k:Int))=p.T.getD k bgZ:=by
 unfold obB obG;rw[if_pos xD,if_pos xD,show(-1-(-1-(k:Int))).toNat=k by omega]
 exact⟨rfl,rfl⟩
theorem zHk{p:Pb}{ch:List Int}{k c:Nat}(h:fI ch k=(c:Int)):obB p ch (k:Int)=(p.C.getD k []).getD c bpZ∧obG p (k:Int)=p.O.getD k bgZ:=by
 unfold obB obG;rw[if_neg xD,if_neg xD]
 show(p.C.getD k []).getD (fI ch k).toNat bpZ=_∧_
 rw[h]
 exact⟨rfl,rfl⟩
theorem ChOk.at{p:Pb}{ch:List Int}(h:ChOk p ch){k:Nat}(hk:k<ch.length):∃c:Nat,fI ch k=(c:Int)∧k<p.C.length∧k<p.O.length∧c<(p.C.getD k []).length:=by
 rcases h k hk with ⟨h1,_⟩|⟨i,c,h1,h2,h3,h4,h5⟩
 ·omega
 ·obtain rfl:k=i:=by omega
  exact⟨c,h2,h3,h4,h5⟩
theorem zNk(p:Pb)(hp:p.fit)(ch:List Int)(n:Int)(h:(∃k:Nat,n = -1-(k:Int)∧k<p.F.length∧k<p.T.length)∨(∃k:Nat,n=k∧k<ch.length))(hc:ChOk p ch):
 zEP Tryz.prog 59 [.c (.pt 1000 6 0 0),.c (iC n)] [tbB p 800] [chI ch] (.tu [.ag (bpC (obB p ch n)),.ag (bgC (obG p n))]) [tbB p 900] [chI ch]:=by
 have lF0:=hp.f;have lC:=hp.c;have lO:=hp.o
 rcases h with ⟨k,rfl,h1,h2⟩|⟨k,rfl,h1⟩
 ·rw[obB_f.1,(obB_f (p:=p) (ch:=ch)).2]
  have hn:-1-(k:Int)<0:=by omega
  have he:-1-(-1-(k:Int))=k:=by omega
  refine zFK Tryz.func59 rfl rfl Tryz.ntmps59 rfl ?_
  repeat (first
   |refine vB [0,1] ?_
   |(refine AWp.draw (id:=2) zI ?_;refine xE7 ?_;refine zG (aP (k:=k) zA) ?_;refine xE8 ?_;refine zG (aP (k:=k) zA) ?_;refine xE3 ?_;refine aB ⟨by kernel_rfl,?_⟩))
  refine⟨mkG (fun _=>True) 0 false 51 1 [(4,.c (.pt 4 3 0 0)),(5,.c (.pt 5 4 0 0))] [(4,⟨false,1,3,53,lF (bpC (p.F.getD k bpZ))⟩),(5,⟨false,1,4,33,lF (bgC (p.T.getD k bgZ))⟩),(900,chI ch),(1000,tbB p 900)] [4,5,900],[(4,⟨false,1,3,53,lF (bpC (p.F.getD k bpZ))⟩),(5,⟨false,1,4,33,lF (bgC (p.T.getD k bgZ))⟩)],_,[tbB p 900],[chI ch],⟨rfl,rfl,rfl⟩,rfl,Wk.mkG [(4,some 4),(5,some 5),(900,some 800)] rfl rfl rfl rfl rfl ?_ ?_ rfl rfl (fun _ _=>trivial),rfl,rfl,GRets.two (x:=.ag _) (y:=.ag _) (GRes.box zA rfl rfl rfl rfl rfl rfl) (GRes.box zA rfl rfl rfl rfl rfl rfl)⟩
  ·exact zB
  ·exact⟨hSm,hSm,HeapOk.row rfl rfl rfl (fun _ _=>zZ ⟨rfl,rfl⟩),zY rfl rfl ⟨LeC.refl _ rfl,LeC.refl _ rfl,LeC.refl _ rfl,LeC.refl _ rfl,LeC.refl _ rfl,LeC.ow _ _ rfl,trivial⟩ rfl,trivial⟩
 ·obtain⟨c,h2,h3,h4,h5⟩:=hc.at h1
  rw[(zHk h2).1,(zHk (p:=p) (ch:=ch) h2).2];have hL32:=hp.l _ (zAH (L:=p.C) (k:=k) (z:= []) h3);have hn:¬(k:Int)<0:=by omega
  have hcF:chF p.C k 0=lsB (p.C.getD k []):=rfl;have hcc:iF (fI ch) k 0=iC (c:Nat):=congrArg iC h2;refine zFK Tryz.func59 rfl rfl Tryz.ntmps59 rfl ?_
  repeat (first
   |refine vB [0,1] ?_
   |(refine AWp.draw (id:=3) zI ?_;refine xE6 ?_;refine zG (aP (k:=k) zA) ?_;refine zAq zA (hcF) rfl rfl rfl rfl rfl oM ?_;refine xE5 ?_;refine zM (zL (k:=k) zA) ?_;refine zAY zA rfl rfl rfl rfl rfl rfl rfl oM oM (hcc) ?_;refine zG (aP (k:=c) zA) ?_;refine xE7 ?_;refine zG (aP (k:=k) zA) ?_;refine xE3 ?_;refine aB ⟨by kernel_rfl,?_⟩))
  refine⟨mkG (fun _=>True) 0 false 51 1 [(4,.c (.pt 4 3 0 0)),(5,.c (.pt 5 4 0 0))] [(4,⟨false,1,3,53,lF (bpC ((p.C.getD k []).getD c bpZ))⟩),(5,⟨false,1,4,33,lF (bgC (p.O.getD k bgZ))⟩),(900,chI ch),(1000,tbB p 900)] [4,5,900],[(4,⟨false,1,3,53,lF (bpC ((p.C.getD k []).getD c bpZ))⟩),(5,⟨false,1,4,33,lF (bgC (p.O.getD k bgZ))⟩)],_,[tbB p 900],[chI ch],⟨rfl,rfl,rfl⟩,rfl,Wk.mkG [(4,some 4),(5,some 5),(900,some 800)] rfl rfl rfl rfl rfl ?_ ?_ rfl rfl (fun _ _=>trivial),rfl,rfl,GRets.two (x:=.ag _) (y:=.ag _) (GRes.box zA rfl rfl rfl rfl rfl rfl) (GRes.box zA rfl rfl rfl rfl rfl rfl)⟩
  ·exact zB
  ·exact⟨hSm,hSm,HeapOk.row rfl rfl rfl (fun _ _=>zZ ⟨rfl,rfl⟩),zY rfl rfl ⟨LeC.refl _ rfl,LeC.refl _ rfl,LeC.refl _ rfl,LeC.refl _ rfl,LeC.refl _ rfl,LeC.ow _ _ rfl,trivial⟩ rfl,trivial⟩
structure Stp where
 nm:Int
 ch:Int
 wi:Int
 rd:Int
 dp:Bool
 cl:Cl
 deriving DecidableEq
abbrev stC(s:Stp):List CV:= [iC s.nm,iC s.ch,iC s.wi,iC s.rd,bC s.dp]++clC s.cl
abbrev stZ:Stp:=⟨0,0,0,0,false,clZ⟩
abbrev zAP(i c:Int):Stp:=⟨i,c,0,0,true,clZ⟩
theorem zL3(i c:Int):ACalls Tryz.prog 61 [.c (iC i),.c (iC c)] (.ag (stC (zAP i c))):=by
 refine zH Tryz.func61 rfl rfl Tryz.ntmps61 rfl ?_;refine vB [0,1] ?_
 refine⟨zC 8 [(4,.c (.pt 4 8 0 0))] [(4,⟨false,1,8,60,lF (stC (zAP i c))⟩)] [4],[(4,⟨false,1,8,60,lF (stC (zAP i c))⟩)],Wk.mk [(4,some 4)] rfl rfl rfl ?_ ?_,rfl,rfl,ARets.one (x:=.ag _) (ARes.box zA rfl rfl rfl rfl rfl rfl rfl)⟩
 ·exact zB
 ·exact⟨hSm,trivial⟩
def obN(p:Pb)(k:Nat):Int:=if k<p.F.length then -1-(k:Int)else (k:Int)-p.F.length
def zBq(p:Pb)(ch:List Int)(c:Nat)(k:Nat):Nat×Cl×Bool:=zBE p.R ((p.C.getD ch.length []).getD c bpZ) (obB p ch (obN p k)) (p.O.getD ch.length bgZ) (obG p (obN p k))
def zNt(p:Pb)(ch:List Int)(c:Nat):Option Nat→Stp
 |some k=>⟨ch.length,c,obN p k,(zBq p ch c k).1,false,(zBq p ch c k).2.1⟩
 |none=>zAP ch.length c
def zBN(p:Pb)(ch:List Int)(c:Nat):Stp:=zNt p ch c ((List.range (p.F.length+ch.length)).find? fun k=>(zBq p ch c k).2.2)
theorem zNE{f:Nat→Bool}:∀{n k:Nat},k<n→f k=true→(∀j,j<k→f j=false)→(List.range n).find? f=some k
 |0,k,h,_,_=>absurd h (Nat.not_lt_zero _)
 | n+1,k,h,hf,hl=>by
   rw[List.range_succ,List.find?_append];by_cases e:k<n
   ·rw[zNE e hf hl];rfl
   ·obtain rfl:k=n:=by omega
    rw[show(List.range k).find? f=none by rw[List.find?_eq_none];intro x hx;rw[hl x (List.mem_range.1 hx)];decide]
    show(List.find? f [k])=_
    rw[List.find?_cons,hf]
theorem zSd{f:Nat→Bool}{n:Nat}(hl:∀j,j<n→f j=false):(List.range n).find? f=none:=by
 rw[List.find?_eq_none];intro x hx;rw[hl x (List.mem_range.1 hx)];decide
theorem zCk{S:St}{ids mids l:List Nat}{p:Pb}{o q:Nat}{bs:List AB}(i:Nat)(hp:S.h o=some (tbB p q))(hq:zU mids q=some i)(h:zBh S ids mids l bs):zBh S ids mids (o::l) (tbB p (800+i)::bs):=
 ⟨⟨_,hp,(fun h=>by cases h),fun k hk j hj=>by
   obtain rfl:k=0:=Nat.lt_one_iff.mp hk
   match j,hj with
   |0,_|1,_|2,_|3,_|4,_=>exact .b (.imm _ rfl)
   |5,_=>exact .b (.mv _ _ hq)⟩,h⟩
theorem zCC{ids ni:List Nat}{p:Pb}{q:Nat}{l m:List AB}(i:Nat)(hq:zU ni q=some i)(h:zAV ids ni l m):zAV ids ni (tbB p (900+i)::l) (tbB p q::m):=
 ⟨⟨_,rfl,fun k hk j hj=>by
   obtain rfl:k=0:=Nat.lt_one_iff.mp hk
   match j,hj with
   |0,_|1,_|2,_|3,_|4,_=>exact .b (.imm _ rfl)
   |5,_=>exact .b (.owN _ _ hq)⟩,h⟩
theorem zNi{p:Pb}(hp:p.fit){ch:List Int}(hc:ChOk p ch){k:Nat}(hk:k<p.F.length+ch.length):(∃j:Nat,obN p k = -1-(j:Int)∧j<p.F.length∧j<p.T.length)∨(∃j:Nat,obN p k=j∧j<ch.length):=by
 unfold obN;have:=hp.t;by_cases h:k<p.F.length
 ·rw[if_pos h];exact .inl ⟨k,rfl,h,by omega⟩
 ·rw[if_neg h];exact .inr ⟨k-p.F.length,by omega,by omega⟩
theorem zSV(p:Pb)(hp:p.fit)(ch:List Int)(hc:ChOk p ch)(c:Nat)(hi:ch.length<p.C.length)(hcl:c<(p.C.getD ch.length []).length):
 zEP Tryz.prog 35 [.c (.pt 1000 6 0 0),.c (iC (c:Nat))] [tbB p 800] [chI ch] (.ag (stC (zBN p ch c))) [tbB p 900] [chI ch]:=by
 have lF0:=hp.f;have lC:=hp.c;have lO:=hp.o;have hL32:=hp.l _ (zAH (L:=p.C) (k:=ch.length) (z:= []) hi);have hcF:chF p.C ch.length 0=lsB (p.C.getD ch.length []):=rfl
 obtain⟨V,hV⟩:∃V,zBN p ch c=V:=⟨_,rfl⟩
 rw[hV];unfold zBN at hV;have h80:((800+0,chI ch):Nat×AB).snd.n=ch.length:=rfl;refine zFK Tryz.func35 rfl rfl Tryz.ntmps35 rfl ?_;refine vB [0,1,2] ?_;refine AWp.round (fun k:Nat=>mkG (fun _=>True) 0 false 94 1 [(0,.c (.pt 1000 6 0 0)),(1,.c (iC (c:Nat))),(4,.c (.pt 4 8 0 0)),(5,.c (iC (ch.length:Nat))),(25,.c (iC ((p.F.length:Int)+ch.length))),(26,.c (iC (k:Nat)))] [(4,⟨false,1,8,60,lF (stC stZ)⟩),(30,chI ch),(1000,tbB p 30)] [4,30]) (fun k=>k≤p.F.length+ch.length∧∀j,j<k→(zBq p ch c j).2.2=false) (fun k=>p.F.length+ch.length-k) 0 ⟨Nat.zero_le _,fun _ h=>absurd h (Nat.not_lt_zero _)⟩ ?_ (fun k hk=> ?_)
 ·refine Wk.mkG [(4,some 4),(30,some 800)] rfl rfl rfl rfl rfl ?_ ?_ rfl rfl (fun _ _=>trivial)
  ·repeat (first|exact trivial|refine⟨⟨_,rfl,by first|exact LeA.c (LeC.ptB _ _ _ _ rfl)|exact leT⟩,?_⟩)
  ·exact⟨hSm,HeapOk.row rfl rfl rfl (fun _ _=>zZ ⟨rfl,rfl⟩),zY rfl rfl ⟨LeC.refl _ rfl,LeC.refl _ rfl,LeC.refl _ rfl,LeC.refl _ rfl,LeC.refl _ rfl,LeC.ow _ _ rfl,trivial⟩ rfl,trivial⟩
 obtain⟨hk,hno⟩:=hk
 by_cases hkl:k<p.F.length+ch.length;rotate_left
 ·have hkl':¬(k:Int)<(p.F.length:Int)+ch.length:=by omega
  obtain rfl:k=p.F.length+ch.length:=by omega
  rw[zSd hno]at hV;subst hV;have hD:=zL3 (ch.length:Nat) (c:Nat)
  repeat (first
   |refine vB [3] ?_
   | (refine rG 13 ?_
      refine xE2 ?_;refine xB Tryz.func61 hD ?_;refine vA ?_;refine aB ?_))
  refine⟨mkG (fun _=>True) 0 false 94 1 [(4,.c (.pt 4 8 0 0))] [(4,⟨false,1,8,60,lF (stC (zAP (ch.length:Nat) (c:Nat)))⟩),(900,chI ch),(1000,tbB p 900)] [4,900],[(4,⟨false,1,8,60,lF (stC (zAP (ch.length:Nat) (c:Nat)))⟩)],_,[tbB p 900],[chI ch],⟨rfl,rfl,rfl⟩,rfl,Wk.mkG [(4,some 4),(900,some 30)] rfl rfl rfl rfl rfl ?_ ?_ rfl rfl (fun _ _=>trivial),rfl,rfl,GRets.one (x:=.ag _) (GRes.box zA rfl rfl rfl rfl rfl rfl)⟩
  ·exact zB
  ·exact⟨hSm,HeapOk.row rfl rfl rfl (fun _ _=>zZ ⟨rfl,rfl⟩),zY rfl rfl ⟨LeC.refl _ rfl,LeC.refl _ rfl,LeC.refl _ rfl,LeC.refl _ rfl,LeC.refl _ rfl,LeC.ow _ _ rfl,trivial⟩ rfl,trivial⟩
 have hkl':(k:Int)<(p.F.length:Int)+ch.length:=by omega
 have hO:=zNk p hp ch (obN p k) (zNi hp hc hkl) hc;have hCl:=zKL p ((p.C.getD ch.length []).getD c bpZ) (obB p ch (obN p k)) (p.O.getD ch.length bgZ) (obG p (obN p k)) hp.ok.lR hp.ok.rd;have hkv:zBq p ch c k=zBE p.R ((p.C.getD ch.length []).getD c bpZ) (obB p ch (obN p k)) (p.O.getD ch.length bgZ) (obG p (obN p k)):=rfl;rw[←hkv]at hCl;clear hkv
 obtain⟨v,hv⟩:∃v,zBq p ch c k=v:=⟨_,rfl⟩
 rw[hv]at hCl;have hhit:v.2.2=true→V=⟨ch.length,c,obN p k,v.1,false,v.2.1⟩:=fun h=>by
  rw[←hV,zNE (f:=fun k=>(zBq p ch c k).2.2) hkl (by rw[hv];exact h) hno]
  show(⟨ch.length,c,obN p k,(zBq p ch c k).1,false,(zBq p ch c k).2.1⟩:Stp)=_
  rw[hv]
 have hnext:v.2.2=false→k+1≤p.F.length+ch.length∧∀j,j<k+1→(zBq p ch c j).2.2=false:=fun h=>⟨hkl,fun j hj=>by
  by_cases e:j=k
  ·rw[e,hv];exact h
  ·exact hno j xD⟩
 clear hv hV
 obtain⟨r,s,o⟩:=v
 dsimp only at hCl hhit hnext
 obtain⟨n,hn⟩:∃n,obN p k=n:=⟨_,rfl⟩
 rw[hn]at hO hCl hhit;generalize obB p ch n=B at *;generalize obG p n=G at *;by_cases hkF:k<p.F.length
 ·obtain rfl:-1-(k:Int)=n:=by rw[←hn];exact(if_pos hkF).symm
  have hkF':¬(k:Int)≥p.F.length:=by omega
  cases o with
  | true=>
    rw[hhit rfl]
    repeat (first
     |refine vB [3,4,5,6,10,11] ?_
     | (refine rG 8 ?_
        refine xE2 ?_;refine zCv [1000] [30] [31] [tbB p 800] [chI ch] [tbB p 900] [chI ch] [tbB p 31] [chI ch] rfl rfl FnV.func rfl Tryz.func59 rfl xC (zCk 0 rfl rfl trivial) (⟨⟨_,rfl,rfl,fun _ _ _ _=>⟨rfl,rfl⟩⟩,trivial⟩) rfl (by exact⟨.c (.b (.pt 1000 0 6 0 0 rfl)),.c (.b (.imm _ rfl)),trivial⟩) (zDL (bpC B) (bgC G) rfl rfl) (zCC 0 rfl trivial) (⟨⟨_,rfl,fun _ _ _ _=>.imm _ rfl⟩,trivial⟩) (hO) ?_;refine xE7 ?_;refine aB ?_)
     |(refine AWp.draw (id:=9) zI ?_;refine zBu ?_;refine zG (aP (k:=ch.length) zA) ?_;refine zAq zA (hcF) rfl rfl rfl rfl rfl oM ?_;refine vA ?_;refine zG (aP (k:=c) zA) ?_;refine xE8 ?_;refine zG (aP (k:=ch.length) zA) ?_;refine xE2 ?_;refine xB Tryz.func60 hCl ?_;refine xE8 ?_;refine aB ⟨by kernel_rfl,?_⟩))
    refine⟨mkG (fun _=>True) 0 false 94 1 [(4,.c (.pt 4 8 0 0))] [(4,⟨false,1,8,60,lF (stC (⟨ch.length,c,_,r,false,s⟩))⟩),(900,chI ch),(1000,tbB p 900)] [4,900],[(4,⟨false,1,8,60,lF (stC (⟨ch.length,c,_,r,false,s⟩))⟩)],_,[tbB p 900],[chI ch],⟨rfl,rfl,rfl⟩,rfl,Wk.mkG [(4,some 4),(900,some 31)] rfl rfl rfl rfl rfl ?_ ?_ rfl rfl (fun _ _=>trivial),rfl,rfl,GRets.one (x:=.ag _) (GRes.box zA rfl rfl rfl rfl rfl rfl)⟩
    ·exact zB
    ·exact⟨hSm,HeapOk.row rfl rfl rfl (fun _ _=>zZ ⟨rfl,rfl⟩),zY rfl rfl ⟨LeC.refl _ rfl,LeC.refl _ rfl,LeC.refl _ rfl,LeC.refl _ rfl,LeC.refl _ rfl,LeC.ow _ _ rfl,trivial⟩ rfl,trivial⟩
  | false=>
    repeat (first
     |refine vB [3,4,5,6,10,12] ?_
     | (refine rG 8 ?_
        refine xE2 ?_;refine zCv [1000] [30] [31] [tbB p 800] [chI ch] [tbB p 900] [chI ch] [tbB p 31] [chI ch] rfl rfl FnV.func rfl Tryz.func59 rfl xC (zCk 0 rfl rfl trivial) (⟨⟨_,rfl,rfl,fun _ _ _ _=>⟨rfl,rfl⟩⟩,trivial⟩) rfl (by exact⟨.c (.b (.pt 1000 0 6 0 0 rfl)),.c (.b (.imm _ rfl)),trivial⟩) (zDL (bpC B) (bgC G) rfl rfl) (zCC 0 rfl trivial) (⟨⟨_,rfl,fun _ _ _ _=>.imm _ rfl⟩,trivial⟩) (hO) ?_;refine xE7 ?_;refine aB ?_)
     |(refine AWp.draw (id:=9) zI ?_;refine zBu ?_;refine zG (aP (k:=ch.length) zA) ?_;refine zAq zA (hcF) rfl rfl rfl rfl rfl oM ?_;refine vA ?_;refine zG (aP (k:=c) zA) ?_;refine xE8 ?_;refine zG (aP (k:=ch.length) zA) ?_;refine xE2 ?_;refine xB Tryz.func60 hCl ?_;refine xE8 ?_;refine aB ⟨by kernel_rfl,?_⟩))
    refine⟨k+1,hnext rfl,Wk.mkG [(4,some 4),(30,some 31)] rfl rfl rfl rfl rfl ?_ ?_ rfl rfl (fun _ _=>trivial),by omega⟩
    ·repeat (first|exact trivial|refine⟨⟨_,rfl,by first|exact LeA.c (LeC.ptB _ _ _ _ rfl)|exact leT⟩,?_⟩)
    ·exact⟨hSm,HeapOk.row rfl rfl rfl (fun _ _=>zZ ⟨rfl,rfl⟩),zY rfl rfl ⟨LeC.refl _ rfl,LeC.refl _ rfl,LeC.refl _ rfl,LeC.refl _ rfl,LeC.refl _ rfl,LeC.ow _ _ rfl,trivial⟩ rfl,trivial⟩
 ·obtain rfl:(k:Int)-p.F.length=n:=by rw[←hn];exact(if_neg hkF).symm
  have hkF':(k:Int)≥p.F.length:=by omega
  cases o with
  | true=>
    rw[hhit rfl]
    repeat (first
     |refine vB [3,4,5,6,7,10,11] ?_
     | (refine rG 8 ?_
        refine xE2 ?_;refine zCv [1000] [30] [31] [tbB p 800] [chI ch] [tbB p 900] [chI ch] [tbB p 31] [chI ch] rfl rfl FnV.func rfl Tryz.func59 rfl xC (zCk 0 rfl rfl trivial) (⟨⟨_,rfl,rfl,fun _ _ _ _=>⟨rfl,rfl⟩⟩,trivial⟩) rfl (by exact⟨.c (.b (.pt 1000 0 6 0 0 rfl)),.c (.b (.imm _ rfl)),trivial⟩) (zDL (bpC B) (bgC G) rfl rfl) (zCC 0 rfl trivial) (⟨⟨_,rfl,fun _ _ _ _=>.imm _ rfl⟩,trivial⟩) (hO) ?_;refine xE7 ?_;refine aB ?_)
     |(refine AWp.draw (id:=9) zI ?_;refine zBu ?_;refine zG (aP (k:=ch.length) zA) ?_;refine zAq zA (hcF) rfl rfl rfl rfl rfl oM ?_;refine vA ?_;refine zG (aP (k:=c) zA) ?_;refine xE8 ?_;refine zG (aP (k:=ch.length) zA) ?_;refine xE2 ?_;refine xB Tryz.func60 hCl ?_;refine xE8 ?_;refine aB ⟨by kernel_rfl,?_⟩))
    refine⟨mkG (fun _=>True) 0 false 94 1 [(4,.c (.pt 4 8 0 0))] [(4,⟨false,1,8,60,lF (stC (⟨ch.length,c,_,r,false,s⟩))⟩),(900,chI ch),(1000,tbB p 900)] [4,900],[(4,⟨false,1,8,60,lF (stC (⟨ch.length,c,_,r,false,s⟩))⟩)],_,[tbB p 900],[chI ch],⟨rfl,rfl,rfl⟩,rfl,Wk.mkG [(4,some 4),(900,some 31)] rfl rfl rfl rfl rfl ?_ ?_ rfl rfl (fun _ _=>trivial),rfl,rfl,GRets.one (x:=.ag _) (GRes.box zA rfl rfl rfl rfl rfl rfl)⟩
    ·exact zB
    ·exact⟨hSm,HeapOk.row rfl rfl rfl (fun _ _=>zZ ⟨rfl,rfl⟩),zY rfl rfl ⟨LeC.refl _ rfl,LeC.refl _ rfl,LeC.refl _ rfl,LeC.refl _ rfl,LeC.refl _ rfl,LeC.ow _ _ rfl,trivial⟩ rfl,trivial⟩
  | false=>
    repeat (first
     |refine vB [3,4,5,6,7,10,12] ?_
     | (refine rG 8 ?_
        refine xE2 ?_;refine zCv [1000] [30] [31] [tbB p 800] [chI ch] [tbB p 900] [chI ch] [tbB p 31] [chI ch] rfl rfl FnV.func rfl Tryz.func59 rfl xC (zCk 0 rfl rfl trivial) (⟨⟨_,rfl,rfl,fun _ _ _ _=>⟨rfl,rfl⟩⟩,trivial⟩) rfl (by exact⟨.c (.b (.pt 1000 0 6 0 0 rfl)),.c (.b (.imm _ rfl)),trivial⟩) (zDL (bpC B) (bgC G) rfl rfl) (zCC 0 rfl trivial) (⟨⟨_,rfl,fun _ _ _ _=>.imm _ rfl⟩,trivial⟩) (hO) ?_;refine xE7 ?_;refine aB ?_)
     |(refine AWp.draw (id:=9) zI ?_;refine zBu ?_;refine zG (aP (k:=ch.length) zA) ?_;refine zAq zA (hcF) rfl rfl rfl rfl rfl oM ?_;refine vA ?_;refine zG (aP (k:=c) zA) ?_;refine xE8 ?_;refine zG (aP (k:=ch.length) zA) ?_;refine xE2 ?_;refine xB Tryz.func60 hCl ?_;refine xE8 ?_;refine aB ⟨by kernel_rfl,?_⟩))
    refine⟨k+1,hnext rfl,Wk.mkG [(4,some 4),(30,some 31)] rfl rfl rfl rfl rfl ?_ ?_ rfl rfl (fun _ _=>trivial),by omega⟩
    ·repeat (first|exact trivial|refine⟨⟨_,rfl,by first|exact LeA.c (LeC.ptB _ _ _ _ rfl)|exact leT⟩,?_⟩)
    ·exact⟨hSm,HeapOk.row rfl rfl rfl (fun _ _=>zZ ⟨rfl,rfl⟩),zY rfl rfl ⟨LeC.refl _ rfl,LeC.refl _ rfl,LeC.refl _ rfl,LeC.refl _ rfl,LeC.refl _ rfl,LeC.ow _ _ rfl,trivial⟩ rfl,trivial⟩
abbrev stR(l:List Stp):AB:=⟨true,l.length,8,60,zS stC stZ l⟩
theorem zBl(s:Stp):(stC s).all zK=true:=rfl
def zBa(p:Pb):Nat→List Int→List Stp
 |0,_=> []
 |m+1,ch=>(List.range (p.C.getD ch.length []).length).flatMap fun c=>zBN p ch c::(if (zBN p ch c).dp=true then zBa p m (ch++ [(c:Int)])else [])
def zFE(p:Pb):Nat→List Int→Prop
 |0,_=>False
 |m+1,ch=>∀c:Nat,c<(p.C.getD ch.length []).length→(zBN p ch c).dp=true→zFE p m (ch++ [(c:Int)])
def zEK(p:Pb)(m:Nat)(ch:List Int)(c:Nat):List Stp:=zBN p ch c::(if (zBN p ch c).dp=true then zBa p m (ch++ [(c:Int)])else [])
def zAI(p:Pb)(m:Nat)(ch:List Int)(c:Nat):List Stp:=(List.range c).flatMap (zEK p m ch)
theorem zFk{p:Pb}{m:Nat}{ch:List Int}{c:Nat}:zAI p m ch (c+1)=zAI p m ch c++zEK p m ch c:=by
 unfold zAI;rw[List.range_succ,List.flatMap_append]
 simp
theorem zJ5{p:Pb}{m:Nat}{ch:List Int}{c n:Nat}(h:c≤n):(zAI p m ch c).length≤(zAI p m ch n).length:=by
 induction n with
 |zero=>obtain rfl:c=0:=Nat.le_zero.1 h;exact Nat.le_refl _
 | succ n ih=>
   by_cases e:c=n+1
   ·rw[e];exact Nat.le_refl _
   ·rw[zFk,List.length_append]
    have:=ih xD
    omega
abbrev bxT(q:Nat):AB:=⟨false,1,1,82,lF [.pt q 6 0 0]⟩
abbrev bxO(r:Nat):AB:=⟨false,1,1,39,lF [.ow r]⟩
abbrev wkC(p:Pb)(a b c:Nat)(i:Nat):CV:= [.pt a 1 0 0,plP p,.pt b 1 0 0,.pt c 1 0 0].getD i .any
abbrev bxW(p:Pb)(a b c:Nat):AB:=⟨false,1,1,1,lF [.fn 34 4 (wkC p a b c)]⟩
theorem zGl{h:Nat→Option AB}{ren:List (Nat×Option Nat)}{p:Pb}{a b c:Nat}(ha:Nat.ble 1000 a=true)(hb:Nat.ble 1000 b=true)(hc:Nat.ble 1000 c=true):LeC h ren (.fn 34 4 (wkC p a b c)) (.fn 34 4 (wkC p a b c)):=
 LeC.fn _ 4 _ _ (fun i hi=>by
  obtain rfl|rfl|rfl|rfl:i=0∨i=1∨i=2∨i=3:=by omega
  all_goals exact⟨trivial,trivial⟩) fun i hi=>by
  obtain rfl|rfl|rfl|rfl:i=0∨i=1∨i=2∨i=3:=by omega
  ·exact .ptB _ _ _ _ ha
  ·exact .refl _ rfl
  ·exact .ptB _ _ _ _ hb
  ·exact .ptB _ _ _ _ hc
theorem zLs{S:St}{ids mids l:List Nat}{o q:Nat}{bs:List AB}(i:Nat)(hp:S.h o=some (bxT q))(hq:zU ids q=some i)(h:zBh S ids mids l bs):zBh S ids mids (o::l) (bxT (1000+i)::bs):=
 ⟨⟨_,hp,(fun h=>by cases h),fun k hk j hj=>by
   obtain rfl:k=0:=Nat.lt_one_iff.mp hk;obtain rfl:j=0:=Nat.lt_one_iff.mp hj;exact .b (.pt _ _ _ _ _ hq)⟩,h⟩
theorem zLr{ids ni:List Nat}{q:Nat}{l m:List AB}(i:Nat)(hq:zU ids q=some i)(h:zAV ids ni l m):zAV ids ni (bxT (1000+i)::l) (bxT q::m):=
 ⟨⟨_,rfl,fun k hk j hj=>by
   obtain rfl:k=0:=Nat.lt_one_iff.mp hk;obtain rfl:j=0:=Nat.lt_one_iff.mp hj;exact .b (.pt _ _ _ _ _ hq)⟩,h⟩
theorem zLq{S:St}{ids mids l:List Nat}{o q:Nat}{bs:List AB}(i:Nat)(hp:S.h o=some (bxO q))(hq:zU mids q=some i)(h:zBh S ids mids l bs):zBh S ids mids (o::l) (bxO (800+i)::bs):=
 ⟨⟨_,hp,(fun h=>by cases h),fun k hk j hj=>by
   obtain rfl:k=0:=Nat.lt_one_iff.mp hk;obtain rfl:j=0:=Nat.lt_one_iff.mp hj;exact .b (.mv _ _ hq)⟩,h⟩
theorem zLp{ids ni:List Nat}{q:Nat}{l m:List AB}(i:Nat)(hq:zU ni q=some i)(h:zAV ids ni l m):zAV ids ni (bxO (900+i)::l) (bxO q::m):=
 ⟨⟨_,rfl,fun k hk j hj=>by
   obtain rfl:k=0:=Nat.lt_one_iff.mp hk;obtain rfl:j=0:=Nat.lt_one_iff.mp hj;exact .b (.owN _ _ hq)⟩,h⟩
theorem zLu{S:St}{ids mids l:List Nat}{p:Pb}{o a b c:Nat}{bs:List AB}(i j k:Nat)(hp:S.h o=some (bxW p a b c))(ha:zU ids a=some i)(hb:zU ids b=some j)(hc:zU ids c=some k)(h:zBh S ids mids l bs):zBh S ids mids (o::l) (bxW p (1000+i) (1000+j) (1000+k)::bs):=
 ⟨⟨_,hp,(fun h=>by cases h),fun n hn m hm=>by
   obtain rfl:n=0:=Nat.lt_one_iff.mp hn;obtain rfl:m=0:=Nat.lt_one_iff.mp hm;refine .fn _ 4 _ _ fun x hx=> ?_
   obtain rfl|rfl|rfl|rfl:x=0∨x=1∨x=2∨x=3:=by omega
   ·exact .pt _ _ _ _ _ ha
   ·exact .imm _ rfl
   ·exact .pt _ _ _ _ _ hb
   ·exact .pt _ _ _ _ _ hc⟩,h⟩
theorem zLt{ids ni:List Nat}{p:Pb}{a b c:Nat}{l m:List AB}(i j k:Nat)(ha:zU ids a=some i)(hb:zU ids b=some j)(hc:zU ids c=some k)(h:zAV ids ni l m):zAV ids ni (bxW p (1000+i) (1000+j) (1000+k)::l) (bxW p a b c::m):=
 ⟨⟨_,rfl,fun n hn m hm=>by
   obtain rfl:n=0:=Nat.lt_one_iff.mp hn;obtain rfl:m=0:=Nat.lt_one_iff.mp hm;refine .fn _ 4 _ _ fun x hx=>⟨?_,?_,?_⟩
   all_goals obtain rfl|rfl|rfl|rfl:x=0∨x=1∨x=2∨x=3:=by omega
   ·exact .pt _ _ _ _ _ ha
   ·exact .imm _ rfl
   ·exact .pt _ _ _ _ _ hb
   ·exact .pt _ _ _ _ _ hc
   all_goals
    intro _ _ _ e
    cases e⟩,h⟩
abbrev wkL(p:Pb)(ch:List Int)(out:List Stp)(q r:Nat):List AB:= [bxT 1001,tbB p q,bxO r,bxW p 1000 1002 1003]
theorem zOw(p:Pb)(hp:p.fit):∀(m:Nat) (ch:List Int) (out:List Stp),ch.length+m=p.C.length→ChOk p ch→zFE p m ch→out.length+(zBa p m ch).length≤1000000→
 zEP Tryz.prog 34 [.c (.pt 1000 1 0 0),.c (plP p),.c (.pt 1002 1 0 0),.c (.pt 1003 1 0 0)] (wkL p ch out 800 801) [chI ch,stR out] (.tu []) (wkL p ch (out++zBa p m ch) 900 901) [chI ch,stR (out++zBa p m ch)]
 |0,_,_,_,_,h,_=>h.elim
 | m + 1,ch,out,hm,hc,hd,hlen=>by
   have hi:ch.length<p.C.length:=by omega
   have lC:=hp.c;have lO:=hp.o;have hL32:=hp.l _ (zAH (L:=p.C) (k:=ch.length) (z:= []) hi);have hcF:chF p.C ch.length 0=lsB (p.C.getD ch.length []):=rfl;have h80:((800+0,chI ch):Nat×AB).snd.n=ch.length:=rfl;have hih:=zOw p hp m;have hwv:zBa p (m+1) ch=zAI p m ch (p.C.getD ch.length []).length:=rfl;rw[hwv]at hlen⊢;have hst:=zSV p hp ch hc
   obtain⟨n,hn⟩:∃n,(p.C.getD ch.length []).length=n:=⟨_,rfl⟩
   rw[hn]at hlen⊢;refine zFK Tryz.func34 rfl rfl Tryz.ntmps34 rfl ?_
   repeat (first
    |refine vB [0] ?_
    | (refine rG 1 ?_
       refine xE3 ?_;refine zG (aP (k:=ch.length) zA) ?_;refine zAq zA (hcF) rfl rfl rfl rfl rfl oM ?_;refine xE2 ?_;refine aB ?_))
   refine AWp.round (fun c:Nat=>mkG (fun _=>True) 0 false 52 4 [(0,.c (.pt 1000 1 0 0)),(1,.c (plP p)),(2,.c (.pt 1002 1 0 0)),(3,.c (.pt 1003 1 0 0)),(4,.c (iC (ch.length:Nat))),(17,.c (iC (n:Nat))),(18,.c (iC (c:Nat)))] [(30,chI ch),(31,stR (out++zAI p m ch c)),(1000,bxT 1001),(1001,tbB p 30),(1002,bxO 31),(1003,bxW p 1000 1002 1003)] [30,31]) (fun c=>c≤n) (fun c=>n-c) 0 (Nat.zero_le _) ?_ (fun c hcn=> ?_)
   ·refine Wk.mkG [(30,some 800),(31,some 801)] rfl rfl rfl rfl rfl ?_ ?_ rfl rfl (fun _ _=>trivial)
    ·rw[←hn]
     repeat (first|exact trivial|refine⟨⟨_,rfl,by first|exact LeA.c (LeC.ptB _ _ _ _ rfl)|exact leT⟩,?_⟩)
    ·exact⟨HeapOk.row rfl rfl rfl (fun _ _=>zZ ⟨rfl,rfl⟩),HeapOk.row rfl rfl (by rw[show zAI p m ch 0= []from rfl,List.append_nil]) (fun i _ j _=>⟨by rw[show zAI p m ch 0= []from rfl,List.append_nil],zQ zBl _ i j⟩),
     zY rfl rfl ⟨LeC.ptB _ _ _ _ rfl,trivial⟩ rfl,zY rfl rfl ⟨LeC.refl _ rfl,LeC.refl _ rfl,LeC.refl _ rfl,LeC.refl _ rfl,LeC.refl _ rfl,LeC.ow _ _ rfl,trivial⟩ rfl,zY rfl rfl ⟨LeC.ow _ _ rfl,trivial⟩ rfl,zY rfl rfl ⟨zGl rfl rfl rfl,trivial⟩ rfl,trivial⟩
   by_cases hcl:c<n;rotate_left
   ·have hcl':¬(c:Int)<n:=by omega
    obtain rfl:c=n:=by omega
    refine vB [2] ?_
    refine⟨mkG (fun _=>True) 0 false 52 4 [] (zAv [chI ch,stR (out++zAI p m ch c)] (wkL p ch out 900 901)) [900,901],[],_,_,_,⟨rfl,rfl,rfl⟩,rfl,Wk.mkG [(900,some 30),(901,some 31)] rfl rfl rfl rfl rfl trivial ?_ rfl rfl (fun _ _=>trivial),rfl,rfl,GRets.no⟩
    exact⟨HeapOk.row rfl rfl rfl (fun _ _=>zZ ⟨rfl,rfl⟩),hrF zBl,
     zY rfl rfl ⟨LeC.ptB _ _ _ _ rfl,trivial⟩ rfl,zY rfl rfl ⟨LeC.refl _ rfl,LeC.refl _ rfl,LeC.refl _ rfl,LeC.refl _ rfl,LeC.refl _ rfl,LeC.ow _ _ rfl,trivial⟩ rfl,zY rfl rfl ⟨LeC.ow _ _ rfl,trivial⟩ rfl,zY rfl rfl ⟨zGl rfl rfl rfl,trivial⟩ rfl,trivial⟩
   have hcl':(c:Int)<n:=by omega
   have hsc:=hst c hi (by rw[hn];exact hcl)
   have hdd:(zBN p ch c).dp=true→zFE p m (ch++ [(c:Int)]):=hd c (by rw[hn];exact hcl)
   have hck:ChOk p (ch++ [(c:Int)]):=hc.snoc (hp.pk hi (by rw[hn];exact hcl))
   have hws:zAI p m ch (c+1)=zAI p m ch c++(zBN p ch c::(if (zBN p ch c).dp=true then zBa p m (ch++ [(c:Int)])else [])):=zFk;have hwl:=zJ5 (p:=p) (m:=m) (ch:=ch) (show c+1≤n by omega)
   obtain⟨O,hO⟩:∃O,out++zAI p m ch c=O:=⟨_,rfl⟩
   have hOl:O.length≤1000000:=by
    have:=zJ5 (p:=p) (m:=m) (ch:=ch) (show c≤n by omega);rw[←hO,List.length_append];omega
   have h81:((31,stR O):Nat×AB).snd.n=O.length:=rfl;have hO2:out++zAI p m ch (c+1)=(O++ [zBN p ch c])++(if (zBN p ch c).dp=true then zBa p m (ch++ [(c:Int)])else []):=by
    rw[hws,←List.append_assoc,hO,List.append_assoc]
    rfl
   rw[hO];have hO2l:(out++zAI p m ch (c+1)).length≤1000000:=by rw[List.length_append];omega
   obtain⟨s,hs⟩:∃s,zBN p ch c=s:=⟨_,rfl⟩
   rw[hs]at hsc hdd hO2
   obtain⟨nm,sc,wi,rd,dp,cl⟩:=s
   cases dp with
   | false=>
     rw[hO2,show(if (⟨nm,sc,wi,rd,false,cl⟩:Stp).dp=true then zBa p m (ch++ [(c:Int)])else [])= []from rfl,List.append_nil]at hO2l;rw[show(if (⟨nm,sc,wi,rd,false,cl⟩:Stp).dp=true then zBa p m (ch++ [(c:Int)])else [])= []from rfl,List.append_nil]at hO2
     repeat (first
      |refine vB [2,3,6,10] ?_
      | (refine rG 4 ?_
         refine xE2 ?_;refine zCv [1001] [30] [33] [tbB p 800] [chI ch] [tbB p 900] [chI ch] [tbB p 33] [chI ch] rfl rfl FnV.func rfl Tryz.func35 rfl xC (zCk 0 rfl rfl trivial) (⟨⟨_,rfl,rfl,fun _ _ _ _=>⟨rfl,rfl⟩⟩,trivial⟩) rfl (by exact⟨.c (.b (.pt 1001 0 6 0 0 rfl)),.c (.b (.imm _ rfl)),trivial⟩) (.ag (zFy (zBl _))) (zCC 0 rfl trivial) (⟨⟨_,rfl,fun _ _ _ _=>.imm _ rfl⟩,trivial⟩) (hsc) ?_;refine xE2 ?_;refine aB ?_)
      | (refine rG 5 ?_
         refine xE3 ?_;refine zBg zA rfl rfl rfl rfl rfl rfl rfl rfl rfl rfl oM oM ?_;refine vA ?_;refine aB ?_))
     refine⟨c+1,hcl,?_,by omega⟩
     rw[hO2];refine Wk.mkG [(30,some 33),(31,some 27)] rfl rfl rfl rfl rfl ?_ ?_ rfl rfl (fun _ _=>trivial)
     ·repeat (first|exact trivial|refine⟨⟨_,rfl,by first|exact LeA.c (LeC.ptB _ _ _ _ rfl)|exact leT⟩,?_⟩)
     ·exact⟨HeapOk.row rfl rfl rfl (fun _ _=>zZ ⟨rfl,rfl⟩),HeapOk.row rfl rfl List.length_append (zB9 _ _ zBl rfl),
       zY rfl rfl ⟨LeC.ptB _ _ _ _ rfl,trivial⟩ rfl,zY rfl rfl ⟨LeC.refl _ rfl,LeC.refl _ rfl,LeC.refl _ rfl,LeC.refl _ rfl,LeC.refl _ rfl,LeC.ow _ _ rfl,trivial⟩ rfl,zY rfl rfl ⟨LeC.ow _ _ rfl,trivial⟩ rfl,zY rfl rfl ⟨zGl rfl rfl rfl,trivial⟩ rfl,trivial⟩
   | true=>
     rw[hO2,List.length_append]at hO2l
     replace hO2l:(O++ [(⟨nm,sc,wi,rd,true,cl⟩:Stp)]).length+(zBa p m (ch++ [(c:Int)])).length≤1000000:=hO2l
     replace hO2:out++zAI p m ch (c+1)=(O++ [(⟨nm,sc,wi,rd,true,cl⟩:Stp)])++zBa p m (ch++ [(c:Int)]):=hO2
     have hw:=hih (ch++ [(c:Int)]) (O++ [(⟨nm,sc,wi,rd,true,cl⟩:Stp)]) (by rw[List.length_append,List.length_singleton];omega) hck (hdd rfl) hO2l
     rw[←hO2]at hw
     obtain⟨O2,hO22⟩:∃O2,out++zAI p m ch (c+1)=O2:=⟨_,rfl⟩
     rw[hO22]at hw hO2
     repeat (first
      |refine vB [2,3,6] ?_
      | (refine rG 4 ?_
         refine xE2 ?_;refine zCv [1001] [30] [33] [tbB p 800] [chI ch] [tbB p 900] [chI ch] [tbB p 33] [chI ch] rfl rfl FnV.func rfl Tryz.func35 rfl xC (zCk 0 rfl rfl trivial) (⟨⟨_,rfl,rfl,fun _ _ _ _=>⟨rfl,rfl⟩⟩,trivial⟩) rfl (by exact⟨.c (.b (.pt 1001 0 6 0 0 rfl)),.c (.b (.imm _ rfl)),trivial⟩) (.ag (zFy (zBl _))) (zCC 0 rfl trivial) (⟨⟨_,rfl,fun _ _ _ _=>.imm _ rfl⟩,trivial⟩) (hsc) ?_;refine xE2 ?_;refine aB ?_)
      | (refine rG 5 ?_
         refine xE3 ?_;refine zBg zA rfl rfl rfl rfl rfl rfl rfl rfl rfl rfl oM oM ?_;refine vA ?_;refine aB ?_)
      |(refine AWp.draw (id:=7) zI ?_;refine xE7 ?_;refine zBg zA rfl rfl rfl rfl rfl rfl rfl rfl rfl rfl oM oM ?_;refine xE3 ?_;refine aB ⟨by kernel_rfl,?_⟩))
     refine AWp.weak (S':=mkG (fun _=>True) 0 false 52 4 [(0,.c (.pt 1000 1 0 0)),(1,.c (plP p)),(2,.c (.pt 1002 1 0 0)),(3,.c (.pt 1003 1 0 0)),(4,.c (iC (ch.length:Nat))),(17,.c (iC (n:Nat))),(18,.c (iC (c:Nat)))] [(30,chI (ch++ [(c:Int)])),(31,stR (O++ [(⟨nm,sc,wi,rd,true,cl⟩:Stp)])),(1000,bxT 1001),(1001,tbB p 30),(1002,bxO 31),(1003,bxW p 1000 1002 1003)] [30,31]) (Wk.mkG [(30,some 37),(31,some 27)] rfl rfl rfl rfl rfl ?_ ?_ rfl rfl (fun _ _=>trivial)) ?_
     ·repeat (first|exact trivial|refine⟨⟨_,rfl,by first|exact LeA.c (LeC.ptB _ _ _ _ rfl)|exact leT⟩,?_⟩)
     ·exact⟨HeapOk.row rfl rfl List.length_append (zDc ch c),HeapOk.row rfl rfl List.length_append (zB9 _ _ zBl rfl),
      zY rfl rfl ⟨LeC.ptB _ _ _ _ rfl,trivial⟩ rfl,zY rfl rfl ⟨LeC.refl _ rfl,LeC.refl _ rfl,LeC.refl _ rfl,LeC.refl _ rfl,LeC.refl _ rfl,LeC.ow _ _ rfl,trivial⟩ rfl,zY rfl rfl ⟨LeC.ow _ _ rfl,trivial⟩ rfl,zY rfl rfl ⟨zGl rfl rfl rfl,trivial⟩ rfl,trivial⟩
     have h34:ch.length≤((34,chI (ch++ [(c:Int)])):Nat×AB).snd.n:=by show _≤(ch++ [(c:Int)]).length;rw[List.length_append];omega
     repeat (first
      |refine vB [10] ?_
      | (refine rG 8 ?_
         refine vA ?_;refine zCv [1000,1001,1002,1003] [30,31] [34,35] (wkL p ch O 800 801) [chI (ch++ [(c:Int)]),stR (O++ [(⟨nm,sc,wi,rd,true,cl⟩:Stp)])] (wkL p ch O 900 901) [chI (ch++ [(c:Int)]),stR O2] (wkL p ch O 34 35) [chI (ch++ [(c:Int)]),stR O2] rfl rfl (FnV.fn 4 (wkC p 1000 1002 1003) rfl rfl) rfl Tryz.func34 rfl xC (zLs 1 rfl rfl (zCk 0 rfl rfl (zLq 1 rfl rfl (zLu 0 2 3 rfl rfl rfl rfl trivial)))) (⟨⟨_,rfl,rfl,fun _ _ _ _=>⟨rfl,rfl⟩⟩,⟨_,rfl,rfl,fun i _ j _=>⟨rfl,zQ zBl _ i j⟩⟩,trivial⟩) rfl (by exact⟨.c (.b (.pt 1000 0 1 0 0 rfl)),.c (.b (.imm _ rfl)),.c (.b (.pt 1002 2 1 0 0 rfl)),.c (.b (.pt 1003 3 1 0 0 rfl)),trivial⟩) (.tu (l:= []) (m:= []) trivial) (zLr 1 rfl (zCC 0 rfl (zLp 1 rfl (zLt 0 2 3 rfl rfl rfl trivial)))) (⟨⟨_,rfl,fun _ _ _ _=>.imm _ rfl⟩,⟨_,rfl,fun i _ j _=>.imm _ (zQ zBl _ i j)⟩,trivial⟩) (hw) ?_;refine aB ?_)
      |(refine AWp.draw (id:=9) zI ?_;refine xE6 ?_;refine zHW (m:=ch.length) zA rfl rfl rfl rfl rfl rfl rfl rfl rfl ⟨_,_,rfl,by first|rfl|omega⟩ xD ?_;refine xE3 ?_;refine aB ⟨by kernel_rfl,?_⟩))
     refine⟨c+1,hcl,?_,by omega⟩
     rw[hO22];refine Wk.mkG [(30,some 48),(31,some 35)] rfl rfl rfl rfl rfl ?_ ?_ rfl rfl (fun _ _=>trivial)
     ·repeat (first|exact trivial|refine⟨⟨_,rfl,by first|exact LeA.c (LeC.ptB _ _ _ _ rfl)|exact leT⟩,?_⟩)
     ·exact⟨HeapOk.row rfl rfl rfl (fun k hk=>zZ ⟨congrArg iC (zEZ hk),rfl⟩),hrF zBl,
      zY rfl rfl ⟨LeC.ptB _ _ _ _ rfl,trivial⟩ rfl,zY rfl rfl ⟨LeC.refl _ rfl,LeC.refl _ rfl,LeC.refl _ rfl,LeC.refl _ rfl,LeC.refl _ rfl,LeC.ow _ _ rfl,trivial⟩ rfl,zY rfl rfl ⟨LeC.ow _ _ rfl,trivial⟩ rfl,zY rfl rfl ⟨zGl rfl rfl rfl,trivial⟩ rfl,trivial⟩
abbrev zAm(l:List Stp):CV:=.ls l.length 8 (zS stC stZ l)
def zCt(p:Pb):List Stp×Int:=if zAA p=0 then (if zAX p=0 then (zBa p p.C.length [],0)else ([],zAX p))else ([],zAA p)
theorem zPr(p:Pb)(hp:p.ok)(hd:zAA p=0→zAX p=0→zFE p p.C.length []∧(zBa p p.C.length []).length≤1000000):ACalls Tryz.prog 10 [.ag (pbC p)] (.tu [.c (zAm (zCt p).1),.c (iC (zCt p).2)]):=by
 have hC:=zFq p hp;have hfit:= @zEV p hp;unfold zCt
 obtain⟨e,he⟩:∃e,zAA p=e:=⟨_,rfl⟩
 rw[he]at hC hd hfit⊢;by_cases h0:e=0;rotate_left
 ·rw [if_neg h0]
  refine zH Tryz.func10 rfl rfl Tryz.ntmps10 rfl ?_
  repeat (first
   |refine vB [0,2,3] ?_
   | (refine rG 1 ?_
      refine vA ?_;refine xB Tryz.func27 hC ?_;refine vA ?_;refine aB ?_))
  refine⟨zC 26 [(2,.c (zAm ([]))),(3,.c (iC (e)))] [] [],[],Wk.mk [] rfl rfl rfl ?_ trivial,rfl,rfl,ARets.two (x:=.c _) (y:=.c _) (ARes.tmp rfl rfl) (ARes.tmp rfl rfl)⟩
  exact⟨⟨_,rfl,.c (LeC.nils _ _)⟩,⟨_,rfl,.c (LeC.refl _ rfl)⟩,trivial⟩
 subst h0;have hU:=zJ3 p hp;rw[if_pos rfl]
 obtain⟨u,hu⟩:∃u,zAX p=u:=⟨_,rfl⟩
 rw[hu]at hU hd⊢;by_cases hu0:u=0;rotate_left
 ·rw [if_neg hu0]
  refine zH Tryz.func10 rfl rfl Tryz.ntmps10 rfl ?_
  repeat (first
   |refine vB [0,2,5,6] ?_
   | (refine rG 1 ?_
      refine vA ?_;refine xB Tryz.func27 hC ?_;refine vA ?_;refine aB ?_)
   | (refine rG 4 ?_
      refine vA ?_;refine xB Tryz.func28 hU ?_;refine vA ?_;refine aB ?_))
  refine⟨zC 26 [(2,.c (zAm ([]))),(3,.c (iC (u)))] [] [],[],Wk.mk [] rfl rfl rfl ?_ trivial,rfl,rfl,ARets.two (x:=.c _) (y:=.c _) (ARes.tmp rfl rfl) (ARes.tmp rfl rfl)⟩
  exact⟨⟨_,rfl,.c (LeC.nils _ _)⟩,⟨_,rfl,.c (LeC.refl _ rfl)⟩,trivial⟩
 subst hu0;rw[if_pos rfl]
 obtain⟨hd1,hd2⟩:=hd rfl rfl
 have hw:=zOw p (hfit rfl) p.C.length [] [] (Nat.zero_add _) (fun k hk=>absurd hk (Nat.not_lt_zero _)) hd1 (by simpa using hd2);rw[List.nil_append]at hw
 obtain⟨W,hW⟩:∃W,zBa p p.C.length []=W:=⟨_,rfl⟩
 rw[hW]at hw⊢;refine zH Tryz.func10 rfl rfl Tryz.ntmps10 rfl ?_
 repeat (first
  |refine vB [0,2,5,7,8,9] ?_
  | (refine rG 1 ?_
     refine vA ?_;refine xB Tryz.func27 hC ?_;refine vA ?_;refine aB ?_)
  | (refine rG 4 ?_
     refine vA ?_;refine xB Tryz.func28 hU ?_;refine vA ?_;refine aB ?_)
  | (refine rG 10 ?_
     refine qr5 zCQ ?_;refine vA ?_;refine aB ?_))
 refine AWp.weak (S':=zC 26 [(6,.c (.pt 6 1 0 0)),(8,.c (.pt 8 1 0 0))] [(7,bxT 21),(21,tbB p 30),(6,bxO 31),(8,bxW p 7 6 8),(30,chI []),(31,stR [])] [6,7,8,21,30,31]) (Wk.mk [(6,some 6),(7,some 7),(8,some 8),(21,some 21),(30,none),(31,none)] rfl rfl rfl ?_ ?_) ?_
 ·exact zB
 ·refine⟨HeapOk.box rfl rfl ⟨LeC.pt _ _ _ _ _ rfl,trivial⟩ rfl,HeapOk.box rfl rfl ⟨LeC.refl _ rfl,LeC.refl _ rfl,LeC.refl _ rfl,LeC.refl _ rfl,LeC.refl _ rfl,LeC.nil _ rfl,trivial⟩ rfl,HeapOk.box rfl rfl ⟨LeC.nil _ rfl,trivial⟩ rfl,HeapOk.box rfl rfl ⟨LeC.fn _ 4 _ _ (fun i hi=> ?_) (fun i hi=> ?_),trivial⟩ rfl,HeapOk.nil rfl rfl,HeapOk.nil rfl rfl,trivial⟩
  all_goals
   obtain rfl|rfl|rfl|rfl:i=0∨i=1∨i=2∨i=3:=by omega
  ·exact⟨trivial,trivial⟩
  ·exact⟨trivial,trivial⟩
  ·exact⟨trivial,trivial⟩
  ·exact⟨trivial,trivial⟩
  ·exact .pt _ _ _ _ _ rfl
  ·exact zBw rfl rfl rfl rfl
  ·exact .pt _ _ _ _ _ rfl
  ·exact .pt _ _ _ _ _ rfl
 repeat (first
  |refine vB [12] ?_
  | (refine rG 11 ?_
     refine vA ?_;refine zCv [7,21,6,8] [30,31] [34,35] (wkL p [] [] 800 801) [chI [],stR []] (wkL p [] W 900 901) [chI [],stR W] [bxT 21,tbB p 34,bxO 35,bxW p 7 6 8] [chI [],stR W] rfl rfl (FnV.fn 4 (wkC p 7 6 8) rfl rfl) rfl Tryz.func34 rfl xC (zLs 1 rfl rfl (zCk 0 rfl rfl (zLq 1 rfl rfl (zLu 0 2 3 rfl rfl rfl rfl trivial)))) (⟨⟨_,rfl,rfl,fun _ _ _ _=>⟨rfl,rfl⟩⟩,⟨_,rfl,rfl,fun i _ j _=>⟨rfl,zQ zBl _ i j⟩⟩,trivial⟩) rfl (by exact⟨.c (.b (.pt 7 0 1 0 0 rfl)),.c (.b (.imm _ rfl)),.c (.b (.pt 6 2 1 0 0 rfl)),.c (.b (.pt 8 3 1 0 0 rfl)),trivial⟩) (.tu (l:= []) (m:= []) trivial) (zLr 1 rfl (zCC 0 rfl (zLp 1 rfl (zLt 0 2 3 rfl rfl rfl trivial)))) (⟨⟨_,rfl,fun _ _ _ _=>.imm _ rfl⟩,⟨_,rfl,fun i _ j _=>.imm _ (zQ zBl _ i j)⟩,trivial⟩) (hw) ?_;refine aB ?_))
 refine⟨zC 26 [(2,.c (zAm (W))),(3,.c (iC (0)))] [] [],[],Wk.mk [] rfl rfl rfl ?_ trivial,rfl,rfl,ARets.two (x:=.c _) (y:=.c _) (ARes.tmp rfl rfl) (ARes.tmp rfl rfl)⟩
 exact⟨⟨_,rfl,.c (zAl rfl rfl rfl (fun i _ j _=>⟨rfl,zQ zBl _ i j⟩))⟩,⟨_,rfl,.c (LeC.refl _ rfl)⟩,trivial⟩
end Go.Proofs.YtpefnljgalpllaaGreat
end
