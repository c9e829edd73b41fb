/- Parts of the proof: A29g, A29h, A29i, A29j, A29k, A29l, A30p. -/
import Derived.Test.YtbffmfeldkjkcaaGreatG43
set_option linter.unusedSimpArgs false
set_option linter.unusedVariables false
set_option maxHeartbeats 0
set_option maxRecDepth 100000
section
namespace Go.Proofs.YtbffmfeldkjkcaaGreat
open Go.RowKit Go.Flow Go.AV Go.Plain
abbrev plP(p:Pb):CV:=.pl 1 5 (lF (pbC p)) 0 0
abbrev tbB(p:Pb)(q:Nat):AB:=⟨false,1,6,125,lF (pbC p++ [.ow q])⟩
abbrev chI(ch:List Int):AB:=zAc ch.length (fI ch)
def obB(p:Pb)(ch:List Int)(n:Int):Bp:=if n<0 then p.F.getD (-1-n).toNat bpZ else (p.C.getD n.toNat []).getD (fI ch n.toNat).toNat bpZ
def obG(p:Pb)(n:Int):Bg:=if n<0 then p.T.getD (-1-n).toNat bgZ else p.O.getD n.toNat bgZ
theorem obB_f{p:Pb}{ch:List Int}{k:Nat}:obB p ch (-1-(k:Int))=p.F.getD k bpZ∧obG p (-1-(k:Int))=p.T.getD k bgZ:=by
 unfold obB obG;rw[if_pos xD,if_pos xD,show(-1-(-1-(k:Int))).toNat=k by omega]
 exact⟨rfl,rfl⟩
theorem zMZ{p:Pb}{ch:List Int}{k c:Nat}(h:fI ch k=(c:Int)):obB p ch (k:Int)=(p.C.getD k []).getD c bpZ∧obG p (k:Int)=p.O.getD k bgZ:=by
 unfold obB obG;rw[if_neg xD,if_neg xD]
 show(p.C.getD k []).getD (fI ch k).toNat bpZ=_∧_
 rw[h]
 exact⟨rfl,rfl⟩
theorem ChOk.at{p:Pb}{ch:List Int}(h:ChOk p ch){k:Nat}(hk:k<ch.length):∃c:Nat,fI ch k=(c:Int)∧k<p.C.length∧k<p.O.length∧c<(p.C.getD k []).length:=by
 rcases h k hk with ⟨h1,_⟩|⟨i,c,h1,h2,h3,h4,h5⟩
 ·omega
 ·obtain rfl:k=i:=by omega
  exact⟨c,h2,h3,h4,h5⟩
theorem zRe(p:Pb)(hp:p.fit)(ch:List Int)(n:Int)(h:(∃k:Nat,n = -1-(k:Int)∧k<p.F.length∧k<p.T.length)∨(∃k:Nat,n=k∧k<ch.length))(hc:ChOk p ch):
 zFl Tryz.prog 78 [.c (.pt 1000 6 0 0),.c (iC n)] [tbB p 800] [chI ch] (.tu [.ag (bpC (obB p ch n)),.ag (bgC (obG p n))]) [tbB p 900] [chI ch]:=by
 have lF0:=hp.f;have lC:=hp.c;have lO:=hp.o
 rcases h with ⟨k,rfl,h1,h2⟩|⟨k,rfl,h1⟩
 ·rw[obB_f.1,(obB_f (p:=p) (ch:=ch)).2]
  have hn:-1-(k:Int)<0:=by omega
  have he:-1-(-1-(k:Int))=k:=by omega
  refine zGY Tryz.func78 rfl rfl Tryz.ntmps78 rfl ?_
  repeat (first
   |refine vB [0,1] ?_
   |(refine AWp.draw (id:=2) zK ?_;refine xE7 ?_;refine zG (aP (k:=k) zA) ?_;refine xE8 ?_;refine zG (aP (k:=k) zA) ?_;refine xE3 ?_;refine aB ⟨by kernel_rfl,?_⟩))
  refine⟨mkG (fun _=>True) 0 false 51 1 [(4,.c (.pt 4 3 0 0)),(5,.c (.pt 5 4 0 0))] [(4,⟨false,1,3,58,lF (bpC (p.F.getD k bpZ))⟩),(5,⟨false,1,4,61,lF (bgC (p.T.getD k bgZ))⟩),(900,chI ch),(1000,tbB p 900)] [4,5,900],[(4,⟨false,1,3,58,lF (bpC (p.F.getD k bpZ))⟩),(5,⟨false,1,4,61,lF (bgC (p.T.getD k bgZ))⟩)],_,[tbB p 900],[chI ch],⟨rfl,rfl,rfl⟩,rfl,Wk.mkG [(4,some 4),(5,some 5),(900,some 800)] rfl rfl rfl rfl rfl ?_ ?_ rfl rfl (fun _ _=>trivial),rfl,rfl,GRets.two (x:=.ag _) (y:=.ag _) (GRes.box zA rfl rfl rfl rfl rfl rfl) (GRes.box zA rfl rfl rfl rfl rfl rfl)⟩
  ·exact zB
  ·exact⟨hSm,hSm,HeapOk.row rfl rfl rfl (fun _ _=>zAa ⟨rfl,rfl⟩),zAe rfl rfl ⟨LeC.refl _ rfl,LeC.refl _ rfl,LeC.refl _ rfl,LeC.refl _ rfl,LeC.refl _ rfl,LeC.ow _ _ rfl,trivial⟩ rfl,trivial⟩
 ·obtain⟨c,h2,h3,h4,h5⟩:=hc.at h1
  rw[(zMZ h2).1,(zMZ (p:=p) (ch:=ch) h2).2];have hL32:=hp.l _ (zAB (L:=p.C) (k:=k) (z:= []) h3);have hn:¬(k:Int)<0:=by omega
  have hcF:chF p.C k 0=lsB (p.C.getD k []):=rfl;have hcc:iF (fI ch) k 0=iC (c:Nat):=congrArg iC h2;refine zGY Tryz.func78 rfl rfl Tryz.ntmps78 rfl ?_
  repeat (first
   |refine vB [0,1] ?_
   |(refine AWp.draw (id:=3) zK ?_;refine xE6 ?_;refine zG (aP (k:=k) zA) ?_;refine zY zA (hcF) rfl rfl rfl rfl rfl oM ?_;refine xE5 ?_;refine zI (zH (k:=k) zA) ?_;refine zAp zA rfl rfl rfl rfl rfl rfl rfl oM oM (hcc) ?_;refine zG (aP (k:=c) zA) ?_;refine xE7 ?_;refine zG (aP (k:=k) zA) ?_;refine xE3 ?_;refine aB ⟨by kernel_rfl,?_⟩))
  refine⟨mkG (fun _=>True) 0 false 51 1 [(4,.c (.pt 4 3 0 0)),(5,.c (.pt 5 4 0 0))] [(4,⟨false,1,3,58,lF (bpC ((p.C.getD k []).getD c bpZ))⟩),(5,⟨false,1,4,61,lF (bgC (p.O.getD k bgZ))⟩),(900,chI ch),(1000,tbB p 900)] [4,5,900],[(4,⟨false,1,3,58,lF (bpC ((p.C.getD k []).getD c bpZ))⟩),(5,⟨false,1,4,61,lF (bgC (p.O.getD k bgZ))⟩)],_,[tbB p 900],[chI ch],⟨rfl,rfl,rfl⟩,rfl,Wk.mkG [(4,some 4),(5,some 5),(900,some 800)] rfl rfl rfl rfl rfl ?_ ?_ rfl rfl (fun _ _=>trivial),rfl,rfl,GRets.two (x:=.ag _) (y:=.ag _) (GRes.box zA rfl rfl rfl rfl rfl rfl) (GRes.box zA rfl rfl rfl rfl rfl rfl)⟩
  ·exact zB
  ·exact⟨hSm,hSm,HeapOk.row rfl rfl rfl (fun _ _=>zAa ⟨rfl,rfl⟩),zAe rfl rfl ⟨LeC.refl _ rfl,LeC.refl _ rfl,LeC.refl _ rfl,LeC.refl _ rfl,LeC.refl _ rfl,LeC.ow _ _ rfl,trivial⟩ rfl,trivial⟩
structure Stp where
 nm:Int
 ch:Int
 wi:Int
 rd:Int
 dp:Bool
 cl:Cl
 deriving DecidableEq
abbrev stC(s:Stp):List CV:= [iC s.nm,iC s.ch,iC s.wi,iC s.rd,bC s.dp]++clC s.cl
abbrev stZ:Stp:=⟨0,0,0,0,false,clZ⟩
abbrev zDw(i c:Int):Stp:=⟨i,c,0,0,true,clZ⟩
theorem zP9(i c:Int):ACalls Tryz.prog 80 [.c (iC i),.c (iC c)] (.ag (stC (zDw i c))):=by
 refine zJ Tryz.func80 rfl rfl Tryz.ntmps80 rfl ?_;refine vB [0,1] ?_
 refine⟨zC 8 [(4,.c (.pt 4 8 0 0))] [(4,⟨false,1,8,68,lF (stC (zDw i c))⟩)] [4],[(4,⟨false,1,8,68,lF (stC (zDw i c))⟩)],Wk.mk [(4,some 4)] rfl rfl rfl ?_ ?_,rfl,rfl,ARets.one (x:=.ag _) (ARes.box zA rfl rfl rfl rfl rfl rfl rfl)⟩
 ·exact zB
 ·exact⟨hSm,trivial⟩
def obN(p:Pb)(k:Nat):Int:=if k<p.F.length then -1-(k:Int)else (k:Int)-p.F.length
def zDn(p:Pb)(ch:List Int)(c:Nat)(k:Nat):Nat×Cl×Bool:=zBO p.R ((p.C.getD ch.length []).getD c bpZ) (obB p ch (obN p k)) (p.O.getD ch.length bgZ) (obG p (obN p k))
def zRl(p:Pb)(ch:List Int)(c:Nat):Option Nat→Stp
 |some k=>⟨ch.length,c,obN p k,(zDn p ch c k).1,false,(zDn p ch c k).2.1⟩
 |none=>zDw ch.length c
def zCd(p:Pb)(ch:List Int)(c:Nat):Stp:=zRl p ch c ((List.range (p.F.length+ch.length)).find? fun k=>(zDn p ch c k).2.2)
theorem zNg{f:Nat→Bool}:∀{n k:Nat},k<n→f k=true→(∀j,j<k→f j=false)→(List.range n).find? f=some k
 |0,k,h,_,_=>absurd h (Nat.not_lt_zero _)
 | n+1,k,h,hf,hl=>by
   rw[List.range_succ,List.find?_append];by_cases e:k<n
   ·rw[zNg e hf hl];rfl
   ·obtain rfl:k=n:=by omega
    rw[show(List.range k).find? f=none by rw[List.find?_eq_none];intro x hx;rw[hl x (List.mem_range.1 hx)];decide]
    show(List.find? f [k])=_
    rw[List.find?_cons,hf]
theorem zRF{f:Nat→Bool}{n:Nat}(hl:∀j,j<n→f j=false):(List.range n).find? f=none:=by
 rw[List.find?_eq_none];intro x hx;rw[hl x (List.mem_range.1 hx)];decide
theorem zD7{S:St}{ids mids l:List Nat}{p:Pb}{o q:Nat}{bs:List AB}(i:Nat)(hp:S.h o=some (tbB p q))(hq:zT mids q=some i)(h:zBm S ids mids l bs):zBm S ids mids (o::l) (tbB p (800+i)::bs):=
 ⟨⟨_,hp,(fun h=>by cases h),fun k hk j hj=>by
   obtain rfl:k=0:=Nat.lt_one_iff.mp hk
   match j,hj with
   |0,_|1,_|2,_|3,_|4,_=>exact .b (.imm _ rfl)
   |5,_=>exact .b (.mv _ _ hq)⟩,h⟩
theorem zD6{ids ni:List Nat}{p:Pb}{q:Nat}{l m:List AB}(i:Nat)(hq:zT ni q=some i)(h:zBq ids ni l m):zBq ids ni (tbB p (900+i)::l) (tbB p q::m):=
 ⟨⟨_,rfl,fun k hk j hj=>by
   obtain rfl:k=0:=Nat.lt_one_iff.mp hk
   match j,hj with
   |0,_|1,_|2,_|3,_|4,_=>exact .b (.imm _ rfl)
   |5,_=>exact .b (.owN _ _ hq)⟩,h⟩
theorem zRd{p:Pb}(hp:p.fit){ch:List Int}(hc:ChOk p ch){k:Nat}(hk:k<p.F.length+ch.length):(∃j:Nat,obN p k = -1-(j:Int)∧j<p.F.length∧j<p.T.length)∨(∃j:Nat,obN p k=j∧j<ch.length):=by
 unfold obN;have:=hp.t;by_cases h:k<p.F.length
 ·rw[if_pos h];exact .inl ⟨k,rfl,h,by omega⟩
 ·rw[if_neg h];exact .inr ⟨k-p.F.length,by omega,by omega⟩
theorem zSg(p:Pb)(hp:p.fit)(ch:List Int)(hc:ChOk p ch)(c:Nat)(hi:ch.length<p.C.length)(hcl:c<(p.C.getD ch.length []).length):
 zFl Tryz.prog 66 [.c (.pt 1000 6 0 0),.c (iC (c:Nat))] [tbB p 800] [chI ch] (.ag (stC (zCd p ch c))) [tbB p 900] [chI ch]:=by
 have lF0:=hp.f;have lC:=hp.c;have lO:=hp.o;have hL32:=hp.l _ (zAB (L:=p.C) (k:=ch.length) (z:= []) hi);have hcF:chF p.C ch.length 0=lsB (p.C.getD ch.length []):=rfl
 obtain⟨V,hV⟩:∃V,zCd p ch c=V:=⟨_,rfl⟩
 rw[hV];unfold zCd at hV;have h80:((800+0,chI ch):Nat×AB).snd.n=ch.length:=rfl;refine zGY Tryz.func66 rfl rfl Tryz.ntmps66 rfl ?_;refine vB [0,1,2] ?_;refine AWp.round (fun k:Nat=>mkG (fun _=>True) 0 false 94 1 [(0,.c (.pt 1000 6 0 0)),(1,.c (iC (c:Nat))),(4,.c (.pt 4 8 0 0)),(5,.c (iC (ch.length:Nat))),(25,.c (iC ((p.F.length:Int)+ch.length))),(26,.c (iC (k:Nat)))] [(4,⟨false,1,8,68,lF (stC stZ)⟩),(30,chI ch),(1000,tbB p 30)] [4,30]) (fun k=>k≤p.F.length+ch.length∧∀j,j<k→(zDn p ch c j).2.2=false) (fun k=>p.F.length+ch.length-k) 0 ⟨Nat.zero_le _,fun _ h=>absurd h (Nat.not_lt_zero _)⟩ ?_ (fun k hk=> ?_)
 ·refine Wk.mkG [(4,some 4),(30,some 800)] rfl rfl rfl rfl rfl ?_ ?_ rfl rfl (fun _ _=>trivial)
  ·repeat (first|exact trivial|refine⟨⟨_,rfl,by first|exact LeA.c (LeC.ptB _ _ _ _ rfl)|exact leT⟩,?_⟩)
  ·exact⟨hSm,HeapOk.row rfl rfl rfl (fun _ _=>zAa ⟨rfl,rfl⟩),zAe rfl rfl ⟨LeC.refl _ rfl,LeC.refl _ rfl,LeC.refl _ rfl,LeC.refl _ rfl,LeC.refl _ rfl,LeC.ow _ _ rfl,trivial⟩ rfl,trivial⟩
 obtain⟨hk,hno⟩:=hk
 by_cases hkl:k<p.F.length+ch.length;rotate_left
 ·have hkl':¬(k:Int)<(p.F.length:Int)+ch.length:=by omega
  obtain rfl:k=p.F.length+ch.length:=by omega
  rw[zRF hno]at hV;subst hV;have hD:=zP9 (ch.length:Nat) (c:Nat)
  repeat (first
   |refine vB [3] ?_
   | (refine rG 13 ?_
      refine xE2 ?_;refine xB Tryz.func80 hD ?_;refine vA ?_;refine aB ?_))
  refine⟨mkG (fun _=>True) 0 false 94 1 [(4,.c (.pt 4 8 0 0))] [(4,⟨false,1,8,68,lF (stC (zDw (ch.length:Nat) (c:Nat)))⟩),(900,chI ch),(1000,tbB p 900)] [4,900],[(4,⟨false,1,8,68,lF (stC (zDw (ch.length:Nat) (c:Nat)))⟩)],_,[tbB p 900],[chI ch],⟨rfl,rfl,rfl⟩,rfl,Wk.mkG [(4,some 4),(900,some 30)] rfl rfl rfl rfl rfl ?_ ?_ rfl rfl (fun _ _=>trivial),rfl,rfl,GRets.one (x:=.ag _) (GRes.box zA rfl rfl rfl rfl rfl rfl)⟩
  ·exact zB
  ·exact⟨hSm,HeapOk.row rfl rfl rfl (fun _ _=>zAa ⟨rfl,rfl⟩),zAe rfl rfl ⟨LeC.refl _ rfl,LeC.refl _ rfl,LeC.refl _ rfl,LeC.refl _ rfl,LeC.refl _ rfl,LeC.ow _ _ rfl,trivial⟩ rfl,trivial⟩
 have hkl':(k:Int)<(p.F.length:Int)+ch.length:=by omega
 have hO:=zRe p hp ch (obN p k) (zRd hp hc hkl) hc;have hCl:=zKv p ((p.C.getD ch.length []).getD c bpZ) (obB p ch (obN p k)) (p.O.getD ch.length bgZ) (obG p (obN p k)) hp.ok.lR hp.ok.rd;have hkv:zDn p ch c k=zBO p.R ((p.C.getD ch.length []).getD c bpZ) (obB p ch (obN p k)) (p.O.getD ch.length bgZ) (obG p (obN p k)):=rfl;rw[←hkv]at hCl;clear hkv
 obtain⟨v,hv⟩:∃v,zDn p ch c k=v:=⟨_,rfl⟩
 rw[hv]at hCl;have hhit:v.2.2=true→V=⟨ch.length,c,obN p k,v.1,false,v.2.1⟩:=fun h=>by
  rw[←hV,zNg (f:=fun k=>(zDn p ch c k).2.2) hkl (by rw[hv];exact h) hno]
  show(⟨ch.length,c,obN p k,(zDn p ch c k).1,false,(zDn p ch c k).2.1⟩:Stp)=_
  rw[hv]
 have hnext:v.2.2=false→k+1≤p.F.length+ch.length∧∀j,j<k+1→(zDn p ch c j).2.2=false:=fun h=>⟨hkl,fun j hj=>by
  by_cases e:j=k
  ·rw[e,hv];exact h
  ·exact hno j xD⟩
 clear hv hV
 obtain⟨r,s,o⟩:=v
 dsimp only at hCl hhit hnext
 obtain⟨n,hn⟩:∃n,obN p k=n:=⟨_,rfl⟩
 rw[hn]at hO hCl hhit;generalize obB p ch n=B at *;generalize obG p n=G at *;by_cases hkF:k<p.F.length
 ·obtain rfl:-1-(k:Int)=n:=by rw[←hn];exact(if_pos hkF).symm
  have hkF':¬(k:Int)≥p.F.length:=by omega
  cases o with
  | true=>
    rw[hhit rfl]
    repeat (first
     |refine vB [3,4,5,6,10,11] ?_
     | (refine rG 8 ?_
        refine xE2 ?_;refine zCM [1000] [30] [31] [tbB p 800] [chI ch] [tbB p 900] [chI ch] [tbB p 31] [chI ch] rfl rfl FnV.func rfl Tryz.func78 rfl xC (zD7 0 rfl rfl trivial) (⟨⟨_,rfl,rfl,fun _ _ _ _=>⟨rfl,rfl⟩⟩,trivial⟩) rfl (by exact⟨.c (.b (.pt 1000 0 6 0 0 rfl)),.c (.b (.imm _ rfl)),trivial⟩) (zEK (bpC B) (bgC G) rfl rfl) (zD6 0 rfl trivial) (⟨⟨_,rfl,fun _ _ _ _=>.imm _ rfl⟩,trivial⟩) (hO) ?_;refine xE7 ?_;refine aB ?_)
     |(refine AWp.draw (id:=9) zK ?_;refine zB4 ?_;refine zG (aP (k:=ch.length) zA) ?_;refine zY zA (hcF) rfl rfl rfl rfl rfl oM ?_;refine vA ?_;refine zG (aP (k:=c) zA) ?_;refine xE8 ?_;refine zG (aP (k:=ch.length) zA) ?_;refine xE2 ?_;refine xB Tryz.func79 hCl ?_;refine xE8 ?_;refine aB ⟨by kernel_rfl,?_⟩))
    refine⟨mkG (fun _=>True) 0 false 94 1 [(4,.c (.pt 4 8 0 0))] [(4,⟨false,1,8,68,lF (stC (⟨ch.length,c,_,r,false,s⟩))⟩),(900,chI ch),(1000,tbB p 900)] [4,900],[(4,⟨false,1,8,68,lF (stC (⟨ch.length,c,_,r,false,s⟩))⟩)],_,[tbB p 900],[chI ch],⟨rfl,rfl,rfl⟩,rfl,Wk.mkG [(4,some 4),(900,some 31)] rfl rfl rfl rfl rfl ?_ ?_ rfl rfl (fun _ _=>trivial),rfl,rfl,GRets.one (x:=.ag _) (GRes.box zA rfl rfl rfl rfl rfl rfl)⟩
    ·exact zB
    ·exact⟨hSm,HeapOk.row rfl rfl rfl (fun _ _=>zAa ⟨rfl,rfl⟩),zAe rfl rfl ⟨LeC.refl _ rfl,LeC.refl _ rfl,LeC.refl _ rfl,LeC.refl _ rfl,LeC.refl _ rfl,LeC.ow _ _ rfl,trivial⟩ rfl,trivial⟩
  | false=>
    repeat (first
     |refine vB [3,4,5,6,10,12] ?_
     | (refine rG 8 ?_
        refine xE2 ?_;refine zCM [1000] [30] [31] [tbB p 800] [chI ch] [tbB p 900] [chI ch] [tbB p 31] [chI ch] rfl rfl FnV.func rfl Tryz.func78 rfl xC (zD7 0 rfl rfl trivial) (⟨⟨_,rfl,rfl,fun _ _ _ _=>⟨rfl,rfl⟩⟩,trivial⟩) rfl (by exact⟨.c (.b (.pt 1000 0 6 0 0 rfl)),.c (.b (.imm _ rfl)),trivial⟩) (zEK (bpC B) (bgC G) rfl rfl) (zD6 0 rfl trivial) (⟨⟨_,rfl,fun _ _ _ _=>.imm _ rfl⟩,trivial⟩) (hO) ?_;refine xE7 ?_;refine aB ?_)
     |(refine AWp.draw (id:=9) zK ?_;refine zB4 ?_;refine zG (aP (k:=ch.length) zA) ?_;refine zY zA (hcF) rfl rfl rfl rfl rfl oM ?_;refine vA ?_;refine zG (aP (k:=c) zA) ?_;refine xE8 ?_;refine zG (aP (k:=ch.length) zA) ?_;refine xE2 ?_;refine xB Tryz.func79 hCl ?_;refine xE8 ?_;refine aB ⟨by kernel_rfl,?_⟩))
    refine⟨k+1,hnext rfl,Wk.mkG [(4,some 4),(30,some 31)] rfl rfl rfl rfl rfl ?_ ?_ rfl rfl (fun _ _=>trivial),by omega⟩
    ·repeat (first|exact trivial|refine⟨⟨_,rfl,by first|exact LeA.c (LeC.ptB _ _ _ _ rfl)|exact leT⟩,?_⟩)
    ·exact⟨hSm,HeapOk.row rfl rfl rfl (fun _ _=>zAa ⟨rfl,rfl⟩),zAe rfl rfl ⟨LeC.refl _ rfl,LeC.refl _ rfl,LeC.refl _ rfl,LeC.refl _ rfl,LeC.refl _ rfl,LeC.ow _ _ rfl,trivial⟩ rfl,trivial⟩
 ·obtain rfl:(k:Int)-p.F.length=n:=by rw[←hn];exact(if_neg hkF).symm
  have hkF':(k:Int)≥p.F.length:=by omega
  cases o with
  | true=>
    rw[hhit rfl]
    repeat (first
     |refine vB [3,4,5,6,7,10,11] ?_
     | (refine rG 8 ?_
        refine xE2 ?_;refine zCM [1000] [30] [31] [tbB p 800] [chI ch] [tbB p 900] [chI ch] [tbB p 31] [chI ch] rfl rfl FnV.func rfl Tryz.func78 rfl xC (zD7 0 rfl rfl trivial) (⟨⟨_,rfl,rfl,fun _ _ _ _=>⟨rfl,rfl⟩⟩,trivial⟩) rfl (by exact⟨.c (.b (.pt 1000 0 6 0 0 rfl)),.c (.b (.imm _ rfl)),trivial⟩) (zEK (bpC B) (bgC G) rfl rfl) (zD6 0 rfl trivial) (⟨⟨_,rfl,fun _ _ _ _=>.imm _ rfl⟩,trivial⟩) (hO) ?_;refine xE7 ?_;refine aB ?_)
     |(refine AWp.draw (id:=9) zK ?_;refine zB4 ?_;refine zG (aP (k:=ch.length) zA) ?_;refine zY zA (hcF) rfl rfl rfl rfl rfl oM ?_;refine vA ?_;refine zG (aP (k:=c) zA) ?_;refine xE8 ?_;refine zG (aP (k:=ch.length) zA) ?_;refine xE2 ?_;refine xB Tryz.func79 hCl ?_;refine xE8 ?_;refine aB ⟨by kernel_rfl,?_⟩))
    refine⟨mkG (fun _=>True) 0 false 94 1 [(4,.c (.pt 4 8 0 0))] [(4,⟨false,1,8,68,lF (stC (⟨ch.length,c,_,r,false,s⟩))⟩),(900,chI ch),(1000,tbB p 900)] [4,900],[(4,⟨false,1,8,68,lF (stC (⟨ch.length,c,_,r,false,s⟩))⟩)],_,[tbB p 900],[chI ch],⟨rfl,rfl,rfl⟩,rfl,Wk.mkG [(4,some 4),(900,some 31)] rfl rfl rfl rfl rfl ?_ ?_ rfl rfl (fun _ _=>trivial),rfl,rfl,GRets.one (x:=.ag _) (GRes.box zA rfl rfl rfl rfl rfl rfl)⟩
    ·exact zB
    ·exact⟨hSm,HeapOk.row rfl rfl rfl (fun _ _=>zAa ⟨rfl,rfl⟩),zAe rfl rfl ⟨LeC.refl _ rfl,LeC.refl _ rfl,LeC.refl _ rfl,LeC.refl _ rfl,LeC.refl _ rfl,LeC.ow _ _ rfl,trivial⟩ rfl,trivial⟩
  | false=>
    repeat (first
     |refine vB [3,4,5,6,7,10,12] ?_
     | (refine rG 8 ?_
        refine xE2 ?_;refine zCM [1000] [30] [31] [tbB p 800] [chI ch] [tbB p 900] [chI ch] [tbB p 31] [chI ch] rfl rfl FnV.func rfl Tryz.func78 rfl xC (zD7 0 rfl rfl trivial) (⟨⟨_,rfl,rfl,fun _ _ _ _=>⟨rfl,rfl⟩⟩,trivial⟩) rfl (by exact⟨.c (.b (.pt 1000 0 6 0 0 rfl)),.c (.b (.imm _ rfl)),trivial⟩) (zEK (bpC B) (bgC G) rfl rfl) (zD6 0 rfl trivial) (⟨⟨_,rfl,fun _ _ _ _=>.imm _ rfl⟩,trivial⟩) (hO) ?_;refine xE7 ?_;refine aB ?_)
     |(refine AWp.draw (id:=9) zK ?_;refine zB4 ?_;refine zG (aP (k:=ch.length) zA) ?_;refine zY zA (hcF) rfl rfl rfl rfl rfl oM ?_;refine vA ?_;refine zG (aP (k:=c) zA) ?_;refine xE8 ?_;refine zG (aP (k:=ch.length) zA) ?_;refine xE2 ?_;refine xB Tryz.func79 hCl ?_;refine xE8 ?_;refine aB ⟨by kernel_rfl,?_⟩))
    refine⟨k+1,hnext rfl,Wk.mkG [(4,some 4),(30,some 31)] rfl rfl rfl rfl rfl ?_ ?_ rfl rfl (fun _ _=>trivial),by omega⟩
    ·repeat (first|exact trivial|refine⟨⟨_,rfl,by first|exact LeA.c (LeC.ptB _ _ _ _ rfl)|exact leT⟩,?_⟩)
    ·exact⟨hSm,HeapOk.row rfl rfl rfl (fun _ _=>zAa ⟨rfl,rfl⟩),zAe rfl rfl ⟨LeC.refl _ rfl,LeC.refl _ rfl,LeC.refl _ rfl,LeC.refl _ rfl,LeC.refl _ rfl,LeC.ow _ _ rfl,trivial⟩ rfl,trivial⟩
abbrev stR(l:List Stp):AB:=⟨true,l.length,8,68,zS stC stZ l⟩
theorem zCL(s:Stp):(stC s).all zM=true:=rfl
def zBV(p:Pb):Nat→List Int→List Stp
 |0,_=> []
 |m+1,ch=>(List.range (p.C.getD ch.length []).length).flatMap fun c=>zCd p ch c::(if (zCd p ch c).dp=true then zBV p m (ch++ [(c:Int)])else [])
def zEM(p:Pb):Nat→List Int→Prop
 |0,_=>False
 |m+1,ch=>∀c:Nat,c<(p.C.getD ch.length []).length→(zCd p ch c).dp=true→zEM p m (ch++ [(c:Int)])
def zOa(p:Pb)(m:Nat)(ch:List Int)(c:Nat):List Stp:=zCd p ch c::(if (zCd p ch c).dp=true then zBV p m (ch++ [(c:Int)])else [])
def zBU(p:Pb)(m:Nat)(ch:List Int)(c:Nat):List Stp:=(List.range c).flatMap (zOa p m ch)
theorem zOc{p:Pb}{m:Nat}{ch:List Int}{c:Nat}:zBU p m ch (c+1)=zBU p m ch c++zOa p m ch c:=by
 unfold zBU;rw[List.range_succ,List.flatMap_append]
 simp
theorem zOb{p:Pb}{m:Nat}{ch:List Int}{c n:Nat}(h:c≤n):(zBU p m ch c).length≤(zBU p m ch n).length:=by
 induction n with
 |zero=>obtain rfl:c=0:=Nat.le_zero.1 h;exact Nat.le_refl _
 | succ n ih=>
   by_cases e:c=n+1
   ·rw[e];exact Nat.le_refl _
   ·rw[zOc,List.length_append]
    have:=ih xD
    omega
abbrev bxT(q:Nat):AB:=⟨false,1,1,123,lF [.pt q 6 0 0]⟩
abbrev bxO(r:Nat):AB:=⟨false,1,1,54,lF [.ow r]⟩
abbrev wkC(p:Pb)(a b c:Nat)(i:Nat):CV:= [.pt a 1 0 0,plP p,.pt b 1 0 0,.pt c 1 0 0].getD i .any
abbrev bxW(p:Pb)(a b c:Nat):AB:=⟨false,1,1,1,lF [.fn 65 4 (wkC p a b c)]⟩
theorem zGp{h:Nat→Option AB}{ren:List (Nat×Option Nat)}{p:Pb}{a b c:Nat}(ha:Nat.ble 1000 a=true)(hb:Nat.ble 1000 b=true)(hc:Nat.ble 1000 c=true):LeC h ren (.fn 65 4 (wkC p a b c)) (.fn 65 4 (wkC p a b c)):=
 LeC.fn _ 4 _ _ (fun i hi=>by
  obtain rfl|rfl|rfl|rfl:i=0∨i=1∨i=2∨i=3:=by omega
  all_goals exact⟨trivial,trivial⟩) fun i hi=>by
  obtain rfl|rfl|rfl|rfl:i=0∨i=1∨i=2∨i=3:=by omega
  ·exact .ptB _ _ _ _ ha
  ·exact .refl _ rfl
  ·exact .ptB _ _ _ _ hb
  ·exact .ptB _ _ _ _ hc
theorem zLr{S:St}{ids mids l:List Nat}{o q:Nat}{bs:List AB}(i:Nat)(hp:S.h o=some (bxT q))(hq:zT ids q=some i)(h:zBm S ids mids l bs):zBm S ids mids (o::l) (bxT (1000+i)::bs):=
 ⟨⟨_,hp,(fun h=>by cases h),fun k hk j hj=>by
   obtain rfl:k=0:=Nat.lt_one_iff.mp hk;obtain rfl:j=0:=Nat.lt_one_iff.mp hj;exact .b (.pt _ _ _ _ _ hq)⟩,h⟩
theorem zLq{ids ni:List Nat}{q:Nat}{l m:List AB}(i:Nat)(hq:zT ids q=some i)(h:zBq ids ni l m):zBq ids ni (bxT (1000+i)::l) (bxT q::m):=
 ⟨⟨_,rfl,fun k hk j hj=>by
   obtain rfl:k=0:=Nat.lt_one_iff.mp hk;obtain rfl:j=0:=Nat.lt_one_iff.mp hj;exact .b (.pt _ _ _ _ _ hq)⟩,h⟩
theorem zLp{S:St}{ids mids l:List Nat}{o q:Nat}{bs:List AB}(i:Nat)(hp:S.h o=some (bxO q))(hq:zT mids q=some i)(h:zBm S ids mids l bs):zBm S ids mids (o::l) (bxO (800+i)::bs):=
 ⟨⟨_,hp,(fun h=>by cases h),fun k hk j hj=>by
   obtain rfl:k=0:=Nat.lt_one_iff.mp hk;obtain rfl:j=0:=Nat.lt_one_iff.mp hj;exact .b (.mv _ _ hq)⟩,h⟩
theorem zLo{ids ni:List Nat}{q:Nat}{l m:List AB}(i:Nat)(hq:zT ni q=some i)(h:zBq ids ni l m):zBq ids ni (bxO (900+i)::l) (bxO q::m):=
 ⟨⟨_,rfl,fun k hk j hj=>by
   obtain rfl:k=0:=Nat.lt_one_iff.mp hk;obtain rfl:j=0:=Nat.lt_one_iff.mp hj;exact .b (.owN _ _ hq)⟩,h⟩
theorem zLt{S:St}{ids mids l:List Nat}{p:Pb}{o a b c:Nat}{bs:List AB}(i j k:Nat)(hp:S.h o=some (bxW p a b c))(ha:zT ids a=some i)(hb:zT ids b=some j)(hc:zT ids c=some k)(h:zBm S ids mids l bs):zBm S ids mids (o::l) (bxW p (1000+i) (1000+j) (1000+k)::bs):=
 ⟨⟨_,hp,(fun h=>by cases h),fun n hn m hm=>by
   obtain rfl:n=0:=Nat.lt_one_iff.mp hn;obtain rfl:m=0:=Nat.lt_one_iff.mp hm;refine .fn _ 4 _ _ fun x hx=> ?_
   obtain rfl|rfl|rfl|rfl:x=0∨x=1∨x=2∨x=3:=by omega
   ·exact .pt _ _ _ _ _ ha
   ·exact .imm _ rfl
   ·exact .pt _ _ _ _ _ hb
   ·exact .pt _ _ _ _ _ hc⟩,h⟩
theorem zLs{ids ni:List Nat}{p:Pb}{a b c:Nat}{l m:List AB}(i j k:Nat)(ha:zT ids a=some i)(hb:zT ids b=some j)(hc:zT ids c=some k)(h:zBq ids ni l m):zBq ids ni (bxW p (1000+i) (1000+j) (1000+k)::l) (bxW p a b c::m):=
 ⟨⟨_,rfl,fun n hn m hm=>by
   obtain rfl:n=0:=Nat.lt_one_iff.mp hn;obtain rfl:m=0:=Nat.lt_one_iff.mp hm;refine .fn _ 4 _ _ fun x hx=>⟨?_,?_,?_⟩
   all_goals obtain rfl|rfl|rfl|rfl:x=0∨x=1∨x=2∨x=3:=by omega
   ·exact .pt _ _ _ _ _ ha
   ·exact .imm _ rfl
   ·exact .pt _ _ _ _ _ hb
   ·exact .pt _ _ _ _ _ hc
   all_goals
    intro _ _ _ e
    cases e⟩,h⟩
abbrev wkL(p:Pb)(ch:List Int)(out:List Stp)(q r:Nat):List AB:= [bxT 1001,tbB p q,bxO r,bxW p 1000 1002 1003]
theorem zOd(p:Pb)(hp:p.fit):∀(m:Nat) (ch:List Int) (out:List Stp),ch.length+m=p.C.length→ChOk p ch→zEM p m ch→out.length+(zBV p m ch).length≤1000000→
 zFl Tryz.prog 65 [.c (.pt 1000 1 0 0),.c (plP p),.c (.pt 1002 1 0 0),.c (.pt 1003 1 0 0)] (wkL p ch out 800 801) [chI ch,stR out] (.tu []) (wkL p ch (out++zBV p m ch) 900 901) [chI ch,stR (out++zBV p m ch)]
 |0,_,_,_,_,h,_=>h.elim
 | m + 1,ch,out,hm,hc,hd,hlen=>by
   have hi:ch.length<p.C.length:=by omega
   have lC:=hp.c;have lO:=hp.o;have hL32:=hp.l _ (zAB (L:=p.C) (k:=ch.length) (z:= []) hi);have hcF:chF p.C ch.length 0=lsB (p.C.getD ch.length []):=rfl;have h80:((800+0,chI ch):Nat×AB).snd.n=ch.length:=rfl;have hih:=zOd p hp m;have hwv:zBV p (m+1) ch=zBU p m ch (p.C.getD ch.length []).length:=rfl;rw[hwv]at hlen⊢;have hst:=zSg p hp ch hc
   obtain⟨n,hn⟩:∃n,(p.C.getD ch.length []).length=n:=⟨_,rfl⟩
   rw[hn]at hlen⊢;refine zGY Tryz.func65 rfl rfl Tryz.ntmps65 rfl ?_
   repeat (first
    |refine vB [0] ?_
    | (refine rG 1 ?_
       refine xE3 ?_;refine zG (aP (k:=ch.length) zA) ?_;refine zY zA (hcF) rfl rfl rfl rfl rfl oM ?_;refine xE2 ?_;refine aB ?_))
   refine AWp.round (fun c:Nat=>mkG (fun _=>True) 0 false 52 4 [(0,.c (.pt 1000 1 0 0)),(1,.c (plP p)),(2,.c (.pt 1002 1 0 0)),(3,.c (.pt 1003 1 0 0)),(4,.c (iC (ch.length:Nat))),(17,.c (iC (n:Nat))),(18,.c (iC (c:Nat)))] [(30,chI ch),(31,stR (out++zBU p m ch c)),(1000,bxT 1001),(1001,tbB p 30),(1002,bxO 31),(1003,bxW p 1000 1002 1003)] [30,31]) (fun c=>c≤n) (fun c=>n-c) 0 (Nat.zero_le _) ?_ (fun c hcn=> ?_)
   ·refine Wk.mkG [(30,some 800),(31,some 801)] rfl rfl rfl rfl rfl ?_ ?_ rfl rfl (fun _ _=>trivial)
    ·rw[←hn]
     repeat (first|exact trivial|refine⟨⟨_,rfl,by first|exact LeA.c (LeC.ptB _ _ _ _ rfl)|exact leT⟩,?_⟩)
    ·exact⟨HeapOk.row rfl rfl rfl (fun _ _=>zAa ⟨rfl,rfl⟩),HeapOk.row rfl rfl (by rw[show zBU p m ch 0= []from rfl,List.append_nil]) (fun i _ j _=>⟨by rw[show zBU p m ch 0= []from rfl,List.append_nil],zL zCL _ i j⟩),
     zAe rfl rfl ⟨LeC.ptB _ _ _ _ rfl,trivial⟩ rfl,zAe rfl rfl ⟨LeC.refl _ rfl,LeC.refl _ rfl,LeC.refl _ rfl,LeC.refl _ rfl,LeC.refl _ rfl,LeC.ow _ _ rfl,trivial⟩ rfl,zAe rfl rfl ⟨LeC.ow _ _ rfl,trivial⟩ rfl,zAe rfl rfl ⟨zGp rfl rfl rfl,trivial⟩ rfl,trivial⟩
   by_cases hcl:c<n;rotate_left
   ·have hcl':¬(c:Int)<n:=by omega
    obtain rfl:c=n:=by omega
    refine vB [2] ?_
    refine⟨mkG (fun _=>True) 0 false 52 4 [] (zAy [chI ch,stR (out++zBU p m ch c)] (wkL p ch out 900 901)) [900,901],[],_,_,_,⟨rfl,rfl,rfl⟩,rfl,Wk.mkG [(900,some 30),(901,some 31)] rfl rfl rfl rfl rfl trivial ?_ rfl rfl (fun _ _=>trivial),rfl,rfl,GRets.no⟩
    exact⟨HeapOk.row rfl rfl rfl (fun _ _=>zAa ⟨rfl,rfl⟩),hrF zCL,
     zAe rfl rfl ⟨LeC.ptB _ _ _ _ rfl,trivial⟩ rfl,zAe rfl rfl ⟨LeC.refl _ rfl,LeC.refl _ rfl,LeC.refl _ rfl,LeC.refl _ rfl,LeC.refl _ rfl,LeC.ow _ _ rfl,trivial⟩ rfl,zAe rfl rfl ⟨LeC.ow _ _ rfl,trivial⟩ rfl,zAe rfl rfl ⟨zGp rfl rfl rfl,trivial⟩ rfl,trivial⟩
   have hcl':(c:Int)<n:=by omega
   have hsc:=hst c hi (by rw[hn];exact hcl)
   have hdd:(zCd p ch c).dp=true→zEM p m (ch++ [(c:Int)]):=hd c (by rw[hn];exact hcl)
   have hck:ChOk p (ch++ [(c:Int)]):=hc.snoc (hp.pk hi (by rw[hn];exact hcl))
   have hws:zBU p m ch (c+1)=zBU p m ch c++(zCd p ch c::(if (zCd p ch c).dp=true then zBV p m (ch++ [(c:Int)])else [])):=zOc;have hwl:=zOb (p:=p) (m:=m) (ch:=ch) (show c+1≤n by omega)
   obtain⟨O,hO⟩:∃O,out++zBU p m ch c=O:=⟨_,rfl⟩
   have hOl:O.length≤1000000:=by
    have:=zOb (p:=p) (m:=m) (ch:=ch) (show c≤n by omega);rw[←hO,List.length_append];omega
   have h81:((31,stR O):Nat×AB).snd.n=O.length:=rfl;have hO2:out++zBU p m ch (c+1)=(O++ [zCd p ch c])++(if (zCd p ch c).dp=true then zBV p m (ch++ [(c:Int)])else []):=by
    rw[hws,←List.append_assoc,hO,List.append_assoc]
    rfl
   rw[hO];have hO2l:(out++zBU p m ch (c+1)).length≤1000000:=by rw[List.length_append];omega
   obtain⟨s,hs⟩:∃s,zCd p ch c=s:=⟨_,rfl⟩
   rw[hs]at hsc hdd hO2
   obtain⟨nm,sc,wi,rd,dp,cl⟩:=s
   cases dp with
   | false=>
     rw[hO2,show(if (⟨nm,sc,wi,rd,false,cl⟩:Stp).dp=true then zBV p m (ch++ [(c:Int)])else [])= []from rfl,List.append_nil]at hO2l;rw[show(if (⟨nm,sc,wi,rd,false,cl⟩:Stp).dp=true then zBV p m (ch++ [(c:Int)])else [])= []from rfl,List.append_nil]at hO2
     repeat (first
      |refine vB [2,3,6,10] ?_
      | (refine rG 4 ?_
         refine xE2 ?_;refine zCM [1001] [30] [33] [tbB p 800] [chI ch] [tbB p 900] [chI ch] [tbB p 33] [chI ch] rfl rfl FnV.func rfl Tryz.func66 rfl xC (zD7 0 rfl rfl trivial) (⟨⟨_,rfl,rfl,fun _ _ _ _=>⟨rfl,rfl⟩⟩,trivial⟩) rfl (by exact⟨.c (.b (.pt 1001 0 6 0 0 rfl)),.c (.b (.imm _ rfl)),trivial⟩) (.ag (zFw (zCL _))) (zD6 0 rfl trivial) (⟨⟨_,rfl,fun _ _ _ _=>.imm _ rfl⟩,trivial⟩) (hsc) ?_;refine xE2 ?_;refine aB ?_)
      | (refine rG 5 ?_
         refine xE3 ?_;refine zBb zA rfl rfl rfl rfl rfl rfl rfl rfl rfl rfl oM oM ?_;refine vA ?_;refine aB ?_))
     refine⟨c+1,hcl,?_,by omega⟩
     rw[hO2];refine Wk.mkG [(30,some 33),(31,some 27)] rfl rfl rfl rfl rfl ?_ ?_ rfl rfl (fun _ _=>trivial)
     ·repeat (first|exact trivial|refine⟨⟨_,rfl,by first|exact LeA.c (LeC.ptB _ _ _ _ rfl)|exact leT⟩,?_⟩)
     ·exact⟨HeapOk.row rfl rfl rfl (fun _ _=>zAa ⟨rfl,rfl⟩),HeapOk.row rfl rfl List.length_append (zBh _ _ zCL rfl),
       zAe rfl rfl ⟨LeC.ptB _ _ _ _ rfl,trivial⟩ rfl,zAe rfl rfl ⟨LeC.refl _ rfl,LeC.refl _ rfl,LeC.refl _ rfl,LeC.refl _ rfl,LeC.refl _ rfl,LeC.ow _ _ rfl,trivial⟩ rfl,zAe rfl rfl ⟨LeC.ow _ _ rfl,trivial⟩ rfl,zAe rfl rfl ⟨zGp rfl rfl rfl,trivial⟩ rfl,trivial⟩
   | true=>
     rw[hO2,List.length_append]at hO2l
     replace hO2l:(O++ [(⟨nm,sc,wi,rd,true,cl⟩:Stp)]).length+(zBV p m (ch++ [(c:Int)])).length≤1000000:=hO2l
     replace hO2:out++zBU p m ch (c+1)=(O++ [(⟨nm,sc,wi,rd,true,cl⟩:Stp)])++zBV p m (ch++ [(c:Int)]):=hO2
     have hw:=hih (ch++ [(c:Int)]) (O++ [(⟨nm,sc,wi,rd,true,cl⟩:Stp)]) (by rw[List.length_append,List.length_singleton];omega) hck (hdd rfl) hO2l
     rw[←hO2]at hw
     obtain⟨O2,hO22⟩:∃O2,out++zBU p m ch (c+1)=O2:=⟨_,rfl⟩
     rw[hO22]at hw hO2
     repeat (first
      |refine vB [2,3,6] ?_
      | (refine rG 4 ?_
         refine xE2 ?_;refine zCM [1001] [30] [33] [tbB p 800] [chI ch] [tbB p 900] [chI ch] [tbB p 33] [chI ch] rfl rfl FnV.func rfl Tryz.func66 rfl xC (zD7 0 rfl rfl trivial) (⟨⟨_,rfl,rfl,fun _ _ _ _=>⟨rfl,rfl⟩⟩,trivial⟩) rfl (by exact⟨.c (.b (.pt 1001 0 6 0 0 rfl)),.c (.b (.imm _ rfl)),trivial⟩) (.ag (zFw (zCL _))) (zD6 0 rfl trivial) (⟨⟨_,rfl,fun _ _ _ _=>.imm _ rfl⟩,trivial⟩) (hsc) ?_;refine xE2 ?_;refine aB ?_)
      | (refine rG 5 ?_
         refine xE3 ?_;refine zBb zA rfl rfl rfl rfl rfl rfl rfl rfl rfl rfl oM oM ?_;refine vA ?_;refine aB ?_)
      |(refine AWp.draw (id:=7) zK ?_;refine xE7 ?_;refine zBb zA rfl rfl rfl rfl rfl rfl rfl rfl rfl rfl oM oM ?_;refine xE3 ?_;refine aB ⟨by kernel_rfl,?_⟩))
     refine AWp.weak (S':=mkG (fun _=>True) 0 false 52 4 [(0,.c (.pt 1000 1 0 0)),(1,.c (plP p)),(2,.c (.pt 1002 1 0 0)),(3,.c (.pt 1003 1 0 0)),(4,.c (iC (ch.length:Nat))),(17,.c (iC (n:Nat))),(18,.c (iC (c:Nat)))] [(30,chI (ch++ [(c:Int)])),(31,stR (O++ [(⟨nm,sc,wi,rd,true,cl⟩:Stp)])),(1000,bxT 1001),(1001,tbB p 30),(1002,bxO 31),(1003,bxW p 1000 1002 1003)] [30,31]) (Wk.mkG [(30,some 37),(31,some 27)] rfl rfl rfl rfl rfl ?_ ?_ rfl rfl (fun _ _=>trivial)) ?_
     ·repeat (first|exact trivial|refine⟨⟨_,rfl,by first|exact LeA.c (LeC.ptB _ _ _ _ rfl)|exact leT⟩,?_⟩)
     ·exact⟨HeapOk.row rfl rfl List.length_append (zDt ch c),HeapOk.row rfl rfl List.length_append (zBh _ _ zCL rfl),
      zAe rfl rfl ⟨LeC.ptB _ _ _ _ rfl,trivial⟩ rfl,zAe rfl rfl ⟨LeC.refl _ rfl,LeC.refl _ rfl,LeC.refl _ rfl,LeC.refl _ rfl,LeC.refl _ rfl,LeC.ow _ _ rfl,trivial⟩ rfl,zAe rfl rfl ⟨LeC.ow _ _ rfl,trivial⟩ rfl,zAe rfl rfl ⟨zGp rfl rfl rfl,trivial⟩ rfl,trivial⟩
     have h34:ch.length≤((34,chI (ch++ [(c:Int)])):Nat×AB).snd.n:=by show _≤(ch++ [(c:Int)]).length;rw[List.length_append];omega
     repeat (first
      |refine vB [10] ?_
      | (refine rG 8 ?_
         refine vA ?_;refine zCM [1000,1001,1002,1003] [30,31] [34,35] (wkL p ch O 800 801) [chI (ch++ [(c:Int)]),stR (O++ [(⟨nm,sc,wi,rd,true,cl⟩:Stp)])] (wkL p ch O 900 901) [chI (ch++ [(c:Int)]),stR O2] (wkL p ch O 34 35) [chI (ch++ [(c:Int)]),stR O2] rfl rfl (FnV.fn 4 (wkC p 1000 1002 1003) rfl rfl) rfl Tryz.func65 rfl xC (zLr 1 rfl rfl (zD7 0 rfl rfl (zLp 1 rfl rfl (zLt 0 2 3 rfl rfl rfl rfl trivial)))) (⟨⟨_,rfl,rfl,fun _ _ _ _=>⟨rfl,rfl⟩⟩,⟨_,rfl,rfl,fun i _ j _=>⟨rfl,zL zCL _ i j⟩⟩,trivial⟩) rfl (by exact⟨.c (.b (.pt 1000 0 1 0 0 rfl)),.c (.b (.imm _ rfl)),.c (.b (.pt 1002 2 1 0 0 rfl)),.c (.b (.pt 1003 3 1 0 0 rfl)),trivial⟩) (.tu (l:= []) (m:= []) trivial) (zLq 1 rfl (zD6 0 rfl (zLo 1 rfl (zLs 0 2 3 rfl rfl rfl trivial)))) (⟨⟨_,rfl,fun _ _ _ _=>.imm _ rfl⟩,⟨_,rfl,fun i _ j _=>.imm _ (zL zCL _ i j)⟩,trivial⟩) (hw) ?_;refine aB ?_)
      |(refine AWp.draw (id:=9) zK ?_;refine xE6 ?_;refine zOo (m:=ch.length) zA rfl rfl rfl rfl rfl rfl rfl rfl rfl ⟨_,_,rfl,by first|rfl|omega⟩ xD ?_;refine xE3 ?_;refine aB ⟨by kernel_rfl,?_⟩))
     refine⟨c+1,hcl,?_,by omega⟩
     rw[hO22];refine Wk.mkG [(30,some 48),(31,some 35)] rfl rfl rfl rfl rfl ?_ ?_ rfl rfl (fun _ _=>trivial)
     ·repeat (first|exact trivial|refine⟨⟨_,rfl,by first|exact LeA.c (LeC.ptB _ _ _ _ rfl)|exact leT⟩,?_⟩)
     ·exact⟨HeapOk.row rfl rfl rfl (fun k hk=>zAa ⟨congrArg iC (zFG hk),rfl⟩),hrF zCL,
      zAe rfl rfl ⟨LeC.ptB _ _ _ _ rfl,trivial⟩ rfl,zAe rfl rfl ⟨LeC.refl _ rfl,LeC.refl _ rfl,LeC.refl _ rfl,LeC.refl _ rfl,LeC.refl _ rfl,LeC.ow _ _ rfl,trivial⟩ rfl,zAe rfl rfl ⟨LeC.ow _ _ rfl,trivial⟩ rfl,zAe rfl rfl ⟨zGp rfl rfl rfl,trivial⟩ rfl,trivial⟩
abbrev zC2(l:List Stp):CV:=.ls l.length 8 (zS stC stZ l)
def zEB(p:Pb):List Stp×Int:=if zAr p=0 then (if zEE p=0 then (zBV p p.C.length [],0)else ([],zEE p))else ([],zAr p)
theorem zO1(p:Pb)(hp:p.ok)(hd:zAr p=0→zEE p=0→zEM p p.C.length []∧(zBV p p.C.length []).length≤1000000):ACalls Tryz.prog 37 [.ag (pbC p)] (.tu [.c (zC2 (zEB p).1),.c (iC (zEB p).2)]):=by
 have hC:=zDH p hp;have hfit:= @zCE p hp;unfold zEB
 obtain⟨e,he⟩:∃e,zAr p=e:=⟨_,rfl⟩
 rw[he]at hC hd hfit⊢;by_cases h0:e=0;rotate_left
 ·rw [if_neg h0]
  refine zJ Tryz.func37 rfl rfl Tryz.ntmps37 rfl ?_
  repeat (first
   |refine vB [0,2,3] ?_
   | (refine rG 1 ?_
      refine vA ?_;refine xB Tryz.func25 hC ?_;refine vA ?_;refine aB ?_))
  refine⟨zC 26 [(2,.c (zC2 ([]))),(3,.c (iC (e)))] [] [],[],Wk.mk [] rfl rfl rfl ?_ trivial,rfl,rfl,ARets.two (x:=.c _) (y:=.c _) (ARes.tmp rfl rfl) (ARes.tmp rfl rfl)⟩
  exact⟨⟨_,rfl,.c (LeC.nils _ _)⟩,⟨_,rfl,.c (LeC.refl _ rfl)⟩,trivial⟩
 subst h0;have hU:=zSF p hp;rw[if_pos rfl]
 obtain⟨u,hu⟩:∃u,zEE p=u:=⟨_,rfl⟩
 rw[hu]at hU hd⊢;by_cases hu0:u=0;rotate_left
 ·rw [if_neg hu0]
  refine zJ Tryz.func37 rfl rfl Tryz.ntmps37 rfl ?_
  repeat (first
   |refine vB [0,2,5,6] ?_
   | (refine rG 1 ?_
      refine vA ?_;refine xB Tryz.func25 hC ?_;refine vA ?_;refine aB ?_)
   | (refine rG 4 ?_
      refine vA ?_;refine xB Tryz.func64 hU ?_;refine vA ?_;refine aB ?_))
  refine⟨zC 26 [(2,.c (zC2 ([]))),(3,.c (iC (u)))] [] [],[],Wk.mk [] rfl rfl rfl ?_ trivial,rfl,rfl,ARets.two (x:=.c _) (y:=.c _) (ARes.tmp rfl rfl) (ARes.tmp rfl rfl)⟩
  exact⟨⟨_,rfl,.c (LeC.nils _ _)⟩,⟨_,rfl,.c (LeC.refl _ rfl)⟩,trivial⟩
 subst hu0;rw[if_pos rfl]
 obtain⟨hd1,hd2⟩:=hd rfl rfl
 have hw:=zOd p (hfit rfl) p.C.length [] [] (Nat.zero_add _) (fun k hk=>absurd hk (Nat.not_lt_zero _)) hd1 (by simpa using hd2);rw[List.nil_append]at hw
 obtain⟨W,hW⟩:∃W,zBV p p.C.length []=W:=⟨_,rfl⟩
 rw[hW]at hw⊢;refine zJ Tryz.func37 rfl rfl Tryz.ntmps37 rfl ?_
 repeat (first
  |refine vB [0,2,5,7,8,9] ?_
  | (refine rG 1 ?_
     refine vA ?_;refine xB Tryz.func25 hC ?_;refine vA ?_;refine aB ?_)
  | (refine rG 4 ?_
     refine vA ?_;refine xB Tryz.func64 hU ?_;refine vA ?_;refine aB ?_)
  | (refine rG 10 ?_
     refine qr5 zEH ?_;refine vA ?_;refine aB ?_))
 refine AWp.weak (S':=zC 26 [(6,.c (.pt 6 1 0 0)),(8,.c (.pt 8 1 0 0))] [(7,bxT 21),(21,tbB p 30),(6,bxO 31),(8,bxW p 7 6 8),(30,chI []),(31,stR [])] [6,7,8,21,30,31]) (Wk.mk [(6,some 6),(7,some 7),(8,some 8),(21,some 21),(30,none),(31,none)] rfl rfl rfl ?_ ?_) ?_
 ·exact zB
 ·refine⟨HeapOk.box rfl rfl ⟨LeC.pt _ _ _ _ _ rfl,trivial⟩ rfl,HeapOk.box rfl rfl ⟨LeC.refl _ rfl,LeC.refl _ rfl,LeC.refl _ rfl,LeC.refl _ rfl,LeC.refl _ rfl,LeC.nil _ rfl,trivial⟩ rfl,HeapOk.box rfl rfl ⟨LeC.nil _ rfl,trivial⟩ rfl,HeapOk.box rfl rfl ⟨LeC.fn _ 4 _ _ (fun i hi=> ?_) (fun i hi=> ?_),trivial⟩ rfl,HeapOk.nil rfl rfl,HeapOk.nil rfl rfl,trivial⟩
  all_goals
   obtain rfl|rfl|rfl|rfl:i=0∨i=1∨i=2∨i=3:=by omega
  ·exact⟨trivial,trivial⟩
  ·exact⟨trivial,trivial⟩
  ·exact⟨trivial,trivial⟩
  ·exact⟨trivial,trivial⟩
  ·exact .pt _ _ _ _ _ rfl
  ·exact zCp rfl rfl rfl rfl
  ·exact .pt _ _ _ _ _ rfl
  ·exact .pt _ _ _ _ _ rfl
 repeat (first
  |refine vB [12] ?_
  | (refine rG 11 ?_
     refine vA ?_;refine zCM [7,21,6,8] [30,31] [34,35] (wkL p [] [] 800 801) [chI [],stR []] (wkL p [] W 900 901) [chI [],stR W] [bxT 21,tbB p 34,bxO 35,bxW p 7 6 8] [chI [],stR W] rfl rfl (FnV.fn 4 (wkC p 7 6 8) rfl rfl) rfl Tryz.func65 rfl xC (zLr 1 rfl rfl (zD7 0 rfl rfl (zLp 1 rfl rfl (zLt 0 2 3 rfl rfl rfl rfl trivial)))) (⟨⟨_,rfl,rfl,fun _ _ _ _=>⟨rfl,rfl⟩⟩,⟨_,rfl,rfl,fun i _ j _=>⟨rfl,zL zCL _ i j⟩⟩,trivial⟩) rfl (by exact⟨.c (.b (.pt 7 0 1 0 0 rfl)),.c (.b (.imm _ rfl)),.c (.b (.pt 6 2 1 0 0 rfl)),.c (.b (.pt 8 3 1 0 0 rfl)),trivial⟩) (.tu (l:= []) (m:= []) trivial) (zLq 1 rfl (zD6 0 rfl (zLo 1 rfl (zLs 0 2 3 rfl rfl rfl trivial)))) (⟨⟨_,rfl,fun _ _ _ _=>.imm _ rfl⟩,⟨_,rfl,fun i _ j _=>.imm _ (zL zCL _ i j)⟩,trivial⟩) (hw) ?_;refine aB ?_))
 refine⟨zC 26 [(2,.c (zC2 (W))),(3,.c (iC (0)))] [] [],[],Wk.mk [] rfl rfl rfl ?_ trivial,rfl,rfl,ARets.two (x:=.c _) (y:=.c _) (ARes.tmp rfl rfl) (ARes.tmp rfl rfl)⟩
 exact⟨⟨_,rfl,.c (zZ rfl rfl rfl (fun i _ j _=>⟨rfl,zL zCL _ i j⟩))⟩,⟨_,rfl,.c (LeC.refl _ rfl)⟩,trivial⟩
def zHC(p:Pb)(H:List Hg)(rp:List Int):Nat→Nat→List (List Stp)→List (List Stp)×Int
 |0,_,out=>(out,0)
 |d+1,k,out=>if (zAd p H (rp.eraseIdx k)).2=0 then (if (zEB (zAd p H (rp.eraseIdx k)).1).2=0 then zHC p H rp d (k+1) (out++ [(zEB (zAd p H (rp.eraseIdx k)).1).1])else ([],(zEB (zAd p H (rp.eraseIdx k)).1).2))else ([],(zAd p H (rp.eraseIdx k)).2)
def zGo(p:Pb)(H:List Hg)(x:Pl):List (List Stp)×Int:=if zEr p H x=true then zHC p H x.rp x.rp.length 0 []else ([],1)
abbrev lsW(L:List (List Stp)):CV:=.ls L.length 1 (fun k _=>zC2 (L.getD k []))
abbrev whB(L:List (List Stp)):AB:=⟨true,L.length,1,54,fun k _=>zC2 (L.getD k [])⟩
theorem zSV(L:List (List Stp))(x:List Stp):∀i,i<L.length+1→∀j,j<1→zAj (fun k _=>zC2 (L.getD k [])) L.length (sF [zC2 x] 1) i j=zC2 ((L++ [x]).getD i [])∧zM (zAj (fun k _=>zC2 (L.getD k [])) L.length (sF [zC2 x] 1) i j)=true:=fun i hi j hj=>by
 obtain rfl:j=0:=Nat.lt_one_iff.mp hj;unfold zAj;by_cases h:i<L.length
 ·rw[Nat.blt_eq.mpr h,List.getD_eq_getElem?_getD (l:=L++ [x]),List.getElem?_append_left h,←List.getD_eq_getElem?_getD]
  exact⟨rfl,rfl⟩
 ·obtain rfl:i=L.length:=by omega
  rw[show Nat.blt L.length L.length=false from Bool.eq_false_iff.2 fun e=>h (Nat.blt_eq.mp e),List.getD_eq_getElem?_getD (l:=L++ [x]),List.getElem?_append_right (Nat.le_refl _),Nat.sub_self]
  exact⟨rfl,rfl⟩
theorem zJw{ids ni:List Nat}{l:List Int}:BackA ids ni (.c (lsI l)) (.c (lsI l)):=.c (.imm _ rfl)
theorem zPb(p:Pb)(hp:p.ok)(H:List Hg)(hH:zCB H)(x:Pl)(hx:zKO x)(hd:∀k,k<x.rp.length→(zAd p H (x.rp.eraseIdx k)).2=0→zEE (zAd p H (x.rp.eraseIdx k)).1=0→zEM (zAd p H (x.rp.eraseIdx k)).1 (zAd p H (x.rp.eraseIdx k)).1.C.length []∧(zBV (zAd p H (x.rp.eraseIdx k)).1 (zAd p H (x.rp.eraseIdx k)).1.C.length []).length≤1000000):
 ACalls Tryz.prog 13 [.ag (pbC p),.c (lsH H),.ag (plC x)] (.tu [.c (lsW (zGo p H x).1),.c (iC (zGo p H x).2)]):=by
 have hHo:=zHU p hp H hH x hx
 obtain⟨hx1,hx2,hx3⟩:=hx
 obtain⟨V,hV⟩:∃V,zGo p H x=V:=⟨_,rfl⟩
 rw[hV];unfold zGo at hV;generalize zEr p H x=b at *
 cases b with
 | false=>
   obtain rfl:([],(1:Int))=V:=hV;refine zJ Tryz.func13 rfl rfl Tryz.ntmps13 rfl ?_
   repeat (first
    |refine vB [0,2] ?_
    | (refine rG 1 ?_
       refine xE3 ?_;refine xB Tryz.func15 hHo ?_;refine vA ?_;refine aB ?_))
   refine⟨zC 54 [(6,.c (lsW ([]))),(7,.c (iC (1)))] [] [],[],Wk.mk [] rfl rfl rfl ?_ trivial,rfl,rfl,ARets.two (x:=.c _) (y:=.c _) (ARes.tmp rfl rfl) (ARes.tmp rfl rfl)⟩
   exact⟨⟨_,rfl,.c (LeC.nils _ _)⟩,⟨_,rfl,.c (LeC.refl _ rfl)⟩,trivial⟩
 |true=>
 rw[if_pos rfl]at hV
 obtain⟨rp,hrp⟩:∃rp,x.rp=rp:=⟨_,rfl⟩
 have hcp:lF (plC x) 0 0=lsI rp:=by rw[←hrp];rfl
 rw[hrp]at hV hd hx1;refine zJ Tryz.func13 rfl rfl Tryz.ntmps13 rfl ?_
 repeat (first
  |refine vB [0,3,4] ?_
  | (refine rG 1 ?_
     refine xE3 ?_;refine xB Tryz.func15 hHo ?_;refine vA ?_;refine aB ?_))
 refine AWp.round (fun s:Nat×List (List Stp)=>(fun (k:Nat) (out:List (List Stp))=>zC 54 [(1,.c (lsH H)),(3,.c (zC4 p)),(5,.c (.pl 1 3 (lF (plC x)) 0 0)),(8,.c (.ow 20)),(19,.c (lsI rp)),(20,.c (iC (rp.length:Nat))),(21,.c (iC (k:Nat)))] [(20,whB out)] [20]) s.1 s.2) (fun s=>s.1≤rp.length∧s.2.length≤s.1∧zHC p H rp (rp.length-s.1) s.1 s.2=V) (fun s=>rp.length-s.1) (0,[]) ⟨Nat.zero_le _,Nat.le_refl _,hV⟩ ?_ (fun s hs=> ?_)
 ·subst hrp
  refine Wk.mk [(20,none)] rfl rfl rfl ?_ ?_
  ·repeat (first|exact trivial|refine⟨⟨_,rfl,by first|exact LeA.c (zCp rfl rfl rfl rfl)|exact leT⟩,?_⟩)
  ·exact⟨HeapOk.nil rfl rfl,trivial⟩
 obtain⟨k,out⟩:=s
 obtain⟨hk,hol,hV⟩:=hs
 dsimp only at hk hol hV⊢;by_cases hkl:k<rp.length;rotate_left
 ·have hkl':¬(k:Int)<rp.length:=by omega
  rw[show rp.length-k=0 by omega]at hV;obtain rfl:(out,(0:Int))=V:=hV;refine vB [5,15] ?_
  refine⟨zC 54 [(6,.c (lsW (out))),(7,.c (iC (0)))] [] [],[],Wk.mk [] rfl rfl rfl ?_ trivial,rfl,rfl,ARets.two (x:=.c _) (y:=.c _) (ARes.tmp rfl rfl) (ARes.tmp rfl rfl)⟩
  exact⟨⟨_,rfl,.c (zZ rfl rfl rfl (fun _ _ _ _=>⟨rfl,rfl⟩))⟩,⟨_,rfl,.c (LeC.refl _ rfl)⟩,trivial⟩
 have hkl':(k:Int)<rp.length:=by omega
 have hd:=hd k hkl;have hCl:=zKz rp.length (fI rp) hx1;have hDe:=zOL rp k hkl hx1;have hle:(rp.eraseIdx k).length≤1000000:=by rw[List.length_eraseIdx_of_lt hkl];omega
 have hW:=zFq p hp H hH (rp.eraseIdx k) hle;have hwc:= @zFa p H (rp.eraseIdx k);rw[show rp.length-k=(rp.length-(k+1))+1 by omega]at hV;unfold zHC at hV;have hok:=fun h:(zAd p H (rp.eraseIdx k)).2=0=>show(zAd p H (rp.eraseIdx k)).1.ok by rw[(hwc h).1];exact zEl _ hp hH (hwc h).2.1
 clear hwc
 obtain⟨rk,hrk⟩:∃rk,rp.eraseIdx k=rk:=⟨_,rfl⟩
 rw[hrk]at hd hDe hle hW hV hok;generalize zAd p H rk=w at *
 obtain⟨q,e⟩:=w
 dsimp only at hd hW hV hok;by_cases h0:e=0;rotate_left
 ·rw[if_neg h0]at hV
  subst hV
  repeat (first
   |refine vB [5,6,8,9] ?_
   |(refine AWp.draw (id:=7) zK ?_;refine xE3 ?_;(first|refine zY zA (hcp) rfl rfl rfl rfl rfl oM ?_|refine zAp zA rfl rfl rfl rfl rfl rfl rfl oM oM (hcp) ?_);refine AList.callG [] [29] [] [] [zAc rp.length (fI rp)] [] [zAc rp.length (fI rp)] rfl rfl FnV.func rfl Tryz.func30 rfl xC (trivial) rfl (.c (.owN 0 29 rfl)) (trivial) (⟨⟨_,rfl,fun i _ j _=>.imm _ rfl⟩,trivial⟩) (hCl) ?_;refine xE3 ?_;refine zCM [] [29] [] [] [zAc rp.length (fI rp)] [] [] [] [] rfl rfl FnV.func rfl Tryz.func36 rfl xC (trivial) (⟨⟨_,rfl,rfl,fun _ _ _ _=>⟨rfl,rfl⟩⟩,trivial⟩) rfl (by exact⟨.c (.b (.mv 29 0 rfl)),.c (.b (.imm _ rfl)),.c (.b (.imm _ rfl)),trivial⟩) (zJw) (trivial) (trivial) (hDe) ?_;refine xB Tryz.func27 hW ?_;refine xE6 ?_;refine aB ⟨by kernel_rfl,?_⟩))
  refine⟨zC 54 [(6,.c (lsW ([]))),(7,.c (iC (e)))] [] [],[],Wk.mk [] rfl rfl rfl ?_ trivial,rfl,rfl,ARets.two (x:=.c _) (y:=.c _) (ARes.tmp rfl rfl) (ARes.tmp rfl rfl)⟩
  exact⟨⟨_,rfl,.c (LeC.nils _ _)⟩,⟨_,rfl,.c (LeC.refl _ rfl)⟩,trivial⟩
 rw[if_pos h0]at hV;have hR:=zO1 q (hok h0) (fun _=>hd h0);subst h0;generalize zEB q=o at *
 obtain⟨sl,f⟩:=o
 dsimp only at hR hV;by_cases hf:f=0
 ·rw [if_pos hf]at hV
  subst hf;have hwa:=zSV out sl
  repeat (first
   |refine vB [5,6,8,11,14] ?_
   |(refine AWp.draw (id:=7) zK ?_;refine xE3 ?_;(first|refine zY zA (hcp) rfl rfl rfl rfl rfl oM ?_|refine zAp zA rfl rfl rfl rfl rfl rfl rfl oM oM (hcp) ?_);refine AList.callG [] [29] [] [] [zAc rp.length (fI rp)] [] [zAc rp.length (fI rp)] rfl rfl FnV.func rfl Tryz.func30 rfl xC (trivial) rfl (.c (.owN 0 29 rfl)) (trivial) (⟨⟨_,rfl,fun i _ j _=>.imm _ rfl⟩,trivial⟩) (hCl) ?_;refine xE3 ?_;refine zCM [] [29] [] [] [zAc rp.length (fI rp)] [] [] [] [] rfl rfl FnV.func rfl Tryz.func36 rfl xC (trivial) (⟨⟨_,rfl,rfl,fun _ _ _ _=>⟨rfl,rfl⟩⟩,trivial⟩) rfl (by exact⟨.c (.b (.mv 29 0 rfl)),.c (.b (.imm _ rfl)),.c (.b (.imm _ rfl)),trivial⟩) (zJw) (trivial) (trivial) (hDe) ?_;refine xB Tryz.func27 hW ?_;refine xE6 ?_;refine aB ⟨by kernel_rfl,?_⟩)
   | (refine rG 10 ?_
      refine vA ?_;refine xB Tryz.func37 hR ?_;refine xE5 ?_;refine aB ?_)
   | (refine rG 13 ?_
      refine xE3 ?_;refine xA ?_;refine vA ?_;refine aB ?_))
  refine⟨(k+1,out++ [sl]),⟨hkl,by dsimp only;rw[List.length_append,List.length_singleton];omega,hV⟩,Wk.mk [(20,some 51)] rfl rfl rfl ?_ ?_,by dsimp only;omega⟩
  ·exact zB
  ·exact⟨HeapOk.row rfl rfl List.length_append (fun i hi j hj=>hwa i (by simpa using hi) j hj),trivial⟩
 ·rw [if_neg hf]at hV
  subst hV
  repeat (first
   |refine vB [5,6,8,11,12] ?_
   |(refine AWp.draw (id:=7) zK ?_;refine xE3 ?_;(first|refine zY zA (hcp) rfl rfl rfl rfl rfl oM ?_|refine zAp zA rfl rfl rfl rfl rfl rfl rfl oM oM (hcp) ?_);refine AList.callG [] [29] [] [] [zAc rp.length (fI rp)] [] [zAc rp.length (fI rp)] rfl rfl FnV.func rfl Tryz.func30 rfl xC (trivial) rfl (.c (.owN 0 29 rfl)) (trivial) (⟨⟨_,rfl,fun i _ j _=>.imm _ rfl⟩,trivial⟩) (hCl) ?_;refine xE3 ?_;refine zCM [] [29] [] [] [zAc rp.length (fI rp)] [] [] [] [] rfl rfl FnV.func rfl Tryz.func36 rfl xC (trivial) (⟨⟨_,rfl,rfl,fun _ _ _ _=>⟨rfl,rfl⟩⟩,trivial⟩) rfl (by exact⟨.c (.b (.mv 29 0 rfl)),.c (.b (.imm _ rfl)),.c (.b (.imm _ rfl)),trivial⟩) (zJw) (trivial) (trivial) (hDe) ?_;refine xB Tryz.func27 hW ?_;refine xE6 ?_;refine aB ⟨by kernel_rfl,?_⟩)
   | (refine rG 10 ?_
      refine vA ?_;refine xB Tryz.func37 hR ?_;refine xE5 ?_;refine aB ?_))
  refine⟨zC 54 [(6,.c (lsW ([]))),(7,.c (iC (f)))] [] [],[],Wk.mk [] rfl rfl rfl ?_ trivial,rfl,rfl,ARets.two (x:=.c _) (y:=.c _) (ARes.tmp rfl rfl) (ARes.tmp rfl rfl)⟩
  exact⟨⟨_,rfl,.c (LeC.nils _ _)⟩,⟨_,rfl,.c (LeC.refl _ rfl)⟩,trivial⟩
end Go.Proofs.YtbffmfeldkjkcaaGreat
end
