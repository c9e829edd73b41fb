/- Parts of the proof: AIfc, A29p, A29q, ADfr, A29r, A29s, A29t, A30t, A29y, A29za, A30v, A29ze. -/
import Derived.Test.YtbffmfeldkjkcaaG46
import Derived.Test.YtbffmfeldkjkcaaHA30yr02
set_option linter.unusedSimpArgs false
set_option linter.unusedVariables false
set_option maxHeartbeats 0
set_option maxRecDepth 100000
section
namespace Go.AV
open Go Go.RowKit Go.Flow
variable{P:Program}{ops:Array Oper}{rest:List Oper}{acc:List (List Nat×List Nat)}{S:St}{Q:List (List Nat×List Nat)→St→Prop}{dst:Option Tmp}{ty:TypeId}{pos:String}{after:Array Edge}{guard:Option (Nat×Bool)}
theorem zKE{t:TypeId}{T:TypeDesc}{x:Operand}(hu:P.underlying t=some T)(hn:∀X,T≠ .interface X)(hw:S.wants ops {dst,op:=.makeInterface t x,type:=ty,pos,after,guard}=some true)(hd:dOk S.n dst=true)(hx:S.opd x=some (.ag []))
 (hk:AList P ops rest (([],[])::acc) (S.eff dst ⟨.c (.p (.iface t (.agg #[]))),[],[]⟩) Q):AList P ops ({dst,op:=.makeInterface t x,type:=ty,pos,after,guard}::rest) acc S Q:=
 AList.val [] _ hw hd (fun S1 h1 _ b0 σ a w R=>by
  obtain⟨vs,e1,e2⟩:=zV R ((h1 x (by simp[Op.operands])).trans hx)
  obtain rfl:vs= []:=by
   cases vs with
   |nil=>rfl
   |cons v l=>exact e2.elim
  refine⟨.iface t (.agg #[]),?_,rfl,rfl⟩
  have:(Instr.makeInterface t (a.eval x)).run P w=.ok (.iface t (.agg #[])) w:=by
   rw[e1];unfold Instr.makeInterface;rw[Sem.run_bind,run_underlying hu]
   cases T<;>first|rfl|exact absurd rfl (hn _)
  simp only[execOp]
  rw[Sem.run_bind,this]
  rfl) hk
def zPy{β:Type}(P:Program)(rs:List ResultVar)(ch:List PanicEntry)(V:Option β)(r:β→AV)(hs' nw hD nD:List AB)(m:Nat):Exit→St→Prop:=
 match V with
 |some x=>zE6 P rs (GEq (r x) hs' nw) m
 |none=>zIc ch hD nD m
theorem zQX{β:Type}{V:Option β}{r:β→AV}{ch:List PanicEntry}{f:FuncId}{fn:Func}{c:Code}{rs:List ResultVar}{args:List V1}{hs mv hs' nw hD nD:List AB}{n:Nat}(hf:P.funcs[f]?=some fn)(hb:fn.body=some c)(hr:fn.results=rs.toArray)(hn:fn.ntmps=n)(hl:(Nat.ble args.length n && Nat.ble mv.length 100)=true)
 (h:AWp P c (zPy P rs ch V r hs' nw hD nD hs.length) (zCk n hs.length args (zAV mv hs))):(∀x,V=some x→zEs P f args hs mv (r x) hs' nw)∧(V=none→zE3 P ch f args hs mv hD nD):=
 ⟨fun x e=>by subst e;exact zF4 hf hb hr hn hl h,fun e=>by subst e;exact zI5 hf hb hn hl h⟩
end Go.AV
end
section
namespace Go.Proofs.Ytbffmfeldkjkcaa
open Go.RowKit Go.Flow Go.AV Go.Plain
def zDk(p:Pb)(ch:List Int)(c:Nat)(s:Stp):Bool:=
 decide (s.wi<ch.length∧-(p.F.length:Int)≤s.wi∧0≤s.rd∧s.rd<(rdL p.R).length) && zD3 ((rdL p.R).getD s.rd.toNat rdZ) ((p.C.getD ch.length []).getD c bpZ) (obB p ch s.wi) (p.O.getD ch.length bgZ) (obG p s.wi) s.cl
def zFu(p:Pb)(rec:List Int→List Stp→Option (List Stp))(ch:List Int)(c:Nat):List Stp→Option (List Stp)
 | []=>none
 |s::l=>if s.nm=ch.length∧s.ch=c then (if s.dp=true then (if s=zBW ch.length c then rec (ch++ [(c:Int)]) l else none)else (if zDk p ch c s=true then some l else none))else none
def zCL(p:Pb)(rec:List Int→List Stp→Option (List Stp))(ch:List Int):Nat→Nat→List Stp→Option (List Stp)
 |0,_,l=>some l
 |k+1,c,l=>(zFu p rec ch c l).bind (zCL p rec ch k (c+1))
def zBs(p:Pb):Nat→List Int→List Stp→Option (List Stp)
 |0,_,_=>none
 |m+1,ch,l=>zCL p (zBs p m) ch (p.C.getD ch.length []).length 0 l
def zFW(p:Pb)(l:List Stp):Int:=if zAr p=0 then (if zBs p p.C.length [] l=some []then 0 else 62)else zAr p
abbrev zFD:List PanicEntry:= [{v:=.iface 115 (.agg #[]),recovered:=false}]
theorem zET:ACalls Try.prog 53 [.c (bC true)] (.tu []):=by
 refine zK Try.func53 rfl rfl Try.ntmps53 rfl ?_
 repeat (first
  |refine vB [0] ?_
  | (refine rG 1 ?_
     refine vA ?_;refine zKE Try.underlying115 (fun _ h=>by cases h) rfl rfl rfl ?_
     fail "panic"
     refine aB ?_))
 refine⟨zD 6 [] [] [],[],Wk.mk [] rfl rfl rfl trivial trivial,rfl,rfl,ARets.no⟩
theorem zC2:zE3 Try.prog zFD 53 [.c (bC false)] [] [] [] []:=by
 refine zI5 Try.func53 rfl Try.ntmps53 rfl ?_;refine vB [0] ?_;refine AWp.die ?_;refine ADie.split 2 ?_;refine vA ?_;refine zKE Try.underlying115 (fun _ h=>by cases h) rfl rfl rfl ?_;refine aB ?_;refine ADie.panic rfl rfl (fun _=>rfl) ⟨rfl,mkL 6 0 [] [] [],[],rfl,zS [] rfl rfl rfl rfl rfl trivial trivial,rfl,rfl⟩
abbrev tbX(p:Pb):AB:=⟨false,1,6,120,lF (pbC p++ [.any])⟩
theorem zSo(s:Stp)(l:List Stp):∀k,k<l.length→∀j,j<8→zAd stC stZ (s::l) (1+k) j=zAd stC stZ l k j:=fun k _ j _=>by rw[Nat.add_comm];rfl
theorem zOr{ids ni:List Nat}{p:Pb}{l m:List AB}(h:zBd ids ni l m):zBd ids ni (tbX p::l) (tbX p::m):=
 ⟨⟨_,rfl,fun k hk j hj=>by
   obtain rfl:k=0:=Nat.lt_one_iff.mp hk
   match j,hj with
   |0,_|1,_|2,_|3,_|4,_=>exact .b (.imm _ rfl)
   |5,_=>exact .b (.any _)⟩,h⟩
theorem zSQ{p:Pb}{rec:List Int→List Stp→Option (List Stp)}(hr:∀ch l x,rec ch l=some x→x.length≤l.length){ch:List Int}{c:Nat}:∀{l x:List Stp},zFu p rec ch c l=some x→x.length≤l.length
 | [],_,h=>by cases h
 | s ::l,x,h=>by
   replace h:(if s.nm=ch.length∧s.ch=c then (if s.dp=true then (if s=zBW ch.length c then rec (ch++ [(c:Int)]) l else none)else (if zDk p ch c s=true then some l else none))else none)=some x:=h
   by_cases h1:s.nm=ch.length∧s.ch=c
   ·rw[if_pos h1]at h
    by_cases h2:s.dp=true
    ·rw[if_pos h2]at h
     by_cases h3:s=zBW ch.length c
     ·rw[if_pos h3]at h;exact Nat.le_trans (hr _ _ _ h) (Nat.le_succ _)
     ·rw[if_neg h3]at h;cases h
    ·rw[if_neg h2]at h
     by_cases h3:zDk p ch c s=true
     ·rw[if_pos h3]at h;cases h;exact Nat.le_succ _
     ·rw[if_neg h3]at h;cases h
   ·rw[if_neg h1]at h;cases h
theorem zME{p:Pb}{rec:List Int→List Stp→Option (List Stp)}(hr:∀ch l x,rec ch l=some x→x.length≤l.length){ch:List Int}:∀{k c:Nat} {l x:List Stp},zCL p rec ch k c l=some x→x.length≤l.length
 |0,_,_,_,h=>by cases h;exact Nat.le_refl _
 | k+1,c,l,x,h=>by
   unfold zCL at h
   cases hs:zFu p rec ch c l with
   |none=>rw[hs]at h;cases h
   |some y=>rw[hs]at h;exact Nat.le_trans (zME hr h) (zSQ hr hs)
theorem zMG(p:Pb):∀(m:Nat) (ch:List Int) (l x:List Stp),zBs p m ch l=some x→x.length≤l.length
 |0,_,_,_,h=>by cases h
 |m+1,_,_,_,h=>zME (zMG p m) h
theorem zMF(p:Pb)(hp:p.fit):∀(m:Nat) (ch:List Int) (l:List Stp),ch.length+m=p.C.length→ChOk p ch→l.length≤1000000→
 (∀x,zBs p m ch l=some x→zEs Try.prog 54 [.c (.pt 1000 6 0 0),.c (zAX l)] [tbB p 800] [chI ch] (.c (zAX x)) [tbB p 900] [chI ch])∧
 (zBs p m ch l=none→zE3 Try.prog zFD 54 [.c (.pt 1000 6 0 0),.c (zAX l)] [tbB p 800] [chI ch] [tbX p] [])
 | 0,ch,l,hm,hc,hl=>by
   have lC:=hp.c;have h80:((800+0,chI ch):Nat×AB).snd.n=ch.length:=rfl;have hi:¬(ch.length:Int)<p.C.length:=by omega
   refine⟨(fun x e=>by cases e),fun _=> ?_⟩
   refine zI5 Try.func54 rfl Try.ntmps54 rfl ?_;refine vB [0,1] ?_;refine AWp.die ?_;refine ADie.split 8 ?_;refine xE8 ?_;refine aB ?_;refine ADie.call [] [] [] [] [] [] [] [] [] rfl FnV.func rfl Try.func53 rfl xC (trivial) (trivial) rfl (by exact⟨.c (.b (.imm _ rfl)),trivial⟩) (trivial) (trivial) (zC2) ?_
   refine⟨rfl,mkG (fun _=>True) 0 false 171 1 [] [(1000,tbX p)] [],[],rfl,Wk.mkG [] rfl rfl rfl rfl rfl trivial ⟨zQ rfl rfl ⟨LeC.refl _ rfl,LeC.refl _ rfl,LeC.refl _ rfl,LeC.refl _ rfl,LeC.refl _ rfl,LeC.any _,trivial⟩ rfl,trivial⟩ rfl rfl (fun _ _=>trivial),rfl,rfl⟩
 | m + 1,ch,l0,hm,hc,hl0=>by
   have lC:=hp.c;have lO:=hp.o;have h80:((800+0,chI ch):Nat×AB).snd.n=ch.length:=rfl;have hi:ch.length<p.C.length:=by omega
   have hi':(ch.length:Int)<p.C.length:=by omega
   have hL32:=hp.l _ (zAJ (L:=p.C) (k:=ch.length) (z:= []) hi);have hcF:chF p.C ch.length 0=lsB (p.C.getD ch.length []):=rfl;have hih:=zMF p hp m;have hR1:=hp.ok.lR
   obtain⟨V,hV⟩:∃V,zBs p (m+1) ch l0=V:=⟨_,rfl⟩
   rw[hV]
   replace hV:zCL p (zBs p m) ch (p.C.getD ch.length []).length 0 l0=V:=hV
   obtain⟨n,hn⟩:∃n,(p.C.getD ch.length []).length=n:=⟨_,rfl⟩
   rw[hn]at hV;refine zQX (V:=V) (r:=fun x=>.c (zAX x)) Try.func54 rfl rfl Try.ntmps54 rfl ?_
   repeat (first
    |refine vB [0,1,3,4] ?_
    | (refine rG 2 ?_
       refine xE8 ?_;refine xB Try.func53 zET ?_;refine aB ?_))
   refine AWp.cut (mkG (fun _=>True) 0 false 171 1 [(0,.c (.pt 1000 6 0 0)),(1,.c (zAX l0)),(5,.c (iC (ch.length:Nat))),(6,.c (lsR (rdL p.R)))] [(30,chI ch),(1000,tbB p 30)] [30]) ?_ (fun S2 hw2=>AWp.weak hw2 ?_)
   ·unfold rdL
    by_cases h:p.R= []
    ·have h0:((p.R.length:Nat):Int)=0:=by rw[h];rfl
     rw[if_pos h];refine vB [5] ?_
     refine⟨rfl,Wk.mkG [(30,some 800)] rfl rfl rfl rfl rfl ?_ ?_ rfl rfl (fun _ _=>trivial)⟩
     ·repeat (first|exact trivial|refine⟨⟨_,rfl,by first|exact LeA.c (zDR rfl zNI)|exact LeA.c (LeC.ptB _ _ _ _ rfl)|exact leT⟩,?_⟩)
     ·exact⟨HeapOk.row rfl rfl rfl (fun _ _=>zY ⟨rfl,rfl⟩),zQ rfl rfl ⟨LeC.refl _ rfl,LeC.refl _ rfl,LeC.refl _ rfl,LeC.refl _ rfl,LeC.refl _ rfl,LeC.ow _ _ rfl,trivial⟩ rfl,trivial⟩
    ·have h0:¬((p.R.length:Nat):Int)=0:=fun h0=>h (List.eq_nil_of_length_eq_zero xD)
     rw[if_neg h];refine vB [] ?_
     refine⟨rfl,Wk.mkG [(30,some 800)] rfl rfl rfl rfl rfl ?_ ?_ rfl rfl (fun _ _=>trivial)⟩
     ·repeat (first|exact trivial|refine⟨⟨_,rfl,by first|exact LeA.c (LeC.ptB _ _ _ _ rfl)|exact leT⟩,?_⟩)
     ·exact⟨HeapOk.row rfl rfl rfl (fun _ _=>zY ⟨rfl,rfl⟩),zQ rfl rfl ⟨LeC.refl _ rfl,LeC.refl _ rfl,LeC.refl _ rfl,LeC.refl _ rfl,LeC.refl _ rfl,LeC.ow _ _ rfl,trivial⟩ rfl,trivial⟩
   have hrl:=zNK hp.ok.rd
   repeat (first
    |refine vB [] ?_
    | (refine rG 6 ?_
       refine xE6 ?_;refine zG (aP (k:=ch.length) zA) ?_;refine zAk zA (hcF) rfl rfl rfl rfl rfl oM ?_;refine xE2 ?_;refine aB ?_))
   refine AWp.round (fun s:Nat×List Stp=>
    mkG (fun _=>True) 0 false 171 1 [(0,.c (.pt 1000 6 0 0)),(1,.c (zAX (s.2))),(5,.c (iC (ch.length:Nat))),(6,.c (lsR (rdL p.R))),(43,.c (iC (n:Nat))),(44,.c (iC (s.1:Nat)))] [(30,chI ch),(1000,tbB p 30)] [30]
    ) (fun s=>s.1≤n∧s.2.length≤1000000∧zCL p (zBs p m) ch (n-s.1) s.1 s.2=V) (fun s=>n-s.1) (0,l0) ⟨Nat.zero_le _,hl0,hV⟩ ?_ (fun s hs=> ?_)
   ·refine Wk.mkG [(30,some 30)] rfl rfl rfl rfl rfl ?_ ?_ rfl rfl (fun _ _=>trivial)
    ·dsimp only
     rw[←hn]
     repeat (first|exact trivial|refine⟨⟨_,rfl,by first|exact LeA.c (LeC.ptB _ _ _ _ rfl)|exact leT⟩,?_⟩)
    ·exact⟨HeapOk.row rfl rfl rfl (fun _ _=>zY ⟨rfl,rfl⟩),zQ rfl rfl ⟨LeC.refl _ rfl,LeC.refl _ rfl,LeC.refl _ rfl,LeC.refl _ rfl,LeC.refl _ rfl,LeC.ow _ _ rfl,trivial⟩ rfl,trivial⟩
   obtain⟨c,l⟩:=s
   obtain⟨hcn,hll,hfw⟩:=hs
   dsimp only at hcn hll hfw⊢;clear hV;by_cases hcl:c<n;rotate_left
   ·have hcl':¬(c:Int)<n:=by omega
    rw[show n-c=0 by omega]at hfw;obtain rfl:some l=V:=hfw;refine vB [7,21] ?_
    refine⟨mkG (fun _=>True) 0 false 171 1 [(4,.c (zAX l))] [(900,chI ch),(1000,tbB p 900)] [900],[],_,[tbB p 900],[chI ch],⟨rfl,rfl,rfl⟩,rfl,Wk.mkG [(900,some 30)] rfl rfl rfl rfl rfl ?_ ?_ rfl rfl (fun _ _=>trivial),rfl,rfl,GRets.one (x:=.c _) (GRes.tmp rfl)⟩
    ·exact zC
    ·exact⟨HeapOk.row rfl rfl rfl (fun _ _=>zY ⟨rfl,rfl⟩),zQ rfl rfl ⟨LeC.refl _ rfl,LeC.refl _ rfl,LeC.refl _ rfl,LeC.refl _ rfl,LeC.refl _ rfl,LeC.ow _ _ rfl,trivial⟩ rfl,trivial⟩
   have hcl':(c:Int)<n:=by omega
   obtain⟨k,hk⟩:∃k,n-c=k+1:=⟨n-c-1,by omega⟩
   have hk2:n-(c+1)=k:=by omega
   rw[hk]at hfw
   replace hfw:(zFu p (zBs p m) ch c l).bind (zCL p (zBs p m) ch k (c+1))=V:=hfw
   cases l with
   | nil=>
     obtain rfl:none=V:=hfw;refine vB [7,8] ?_;refine AWp.die ?_;refine ADie.split 19 ?_
     (iterate 19 refine vA ?_);refine aB ?_;refine ADie.call [] [] [] [] [] [] [] [] [] rfl FnV.func rfl Try.func53 rfl xC (trivial) (trivial) rfl (by exact⟨.c (.b (.imm _ rfl)),trivial⟩) (trivial) (trivial) (zC2) ?_
     refine⟨rfl,mkG (fun _=>True) 0 false 171 1 [] [(1000,tbX p)] [],[],rfl,Wk.mkG [] rfl rfl rfl rfl rfl trivial ⟨zQ rfl rfl ⟨LeC.refl _ rfl,LeC.refl _ rfl,LeC.refl _ rfl,LeC.refl _ rfl,LeC.refl _ rfl,LeC.any _,trivial⟩ rfl,trivial⟩ rfl rfl (fun _ _=>trivial),rfl,rfl⟩
   |cons s r=>
   have hlr:r.length≤1000000:=by simp only[List.length_cons]at hll;omega
   have e54:zAd stC stZ (s::r) 0 0=iC s.nm:=rfl;have e62:zAd stC stZ (s::r) 0 1=iC s.ch:=rfl;have e69:zAO (zAd stC stZ (s::r) 0) 0 8=stC s:=rfl;have hl2:((s::r).length:Int)>0:=by simp only[List.length_cons];omega
   replace hfw:(if s.nm=ch.length∧s.ch=c then (if s.dp=true then (if s=zBW ch.length c then zBs p m (ch++ [(c:Int)]) r else none)else (if zDk p ch c s=true then some r else none))else none).bind (zCL p (zBs p m) ch k (c+1))=V:=hfw
   by_cases d1:s.nm=ch.length;rotate_left
   ·rw[if_neg fun h=>d1 h.1]at hfw
    obtain rfl:none=V:=hfw;refine vB [7,8] ?_;refine AWp.die ?_;refine ADie.split 19 ?_;refine xE5 ?_;refine zG (aP (k:=0) zA) ?_;refine vA ?_;refine zAk zA (e54) rfl rfl rfl rfl rfl oM ?_;refine zCf ?_;refine aB ?_;refine ADie.call [] [] [] [] [] [] [] [] [] rfl FnV.func rfl Try.func53 rfl xC (trivial) (trivial) rfl (by exact⟨.c (.b (.imm _ rfl)),trivial⟩) (trivial) (trivial) (zC2) ?_
    refine⟨rfl,mkG (fun _=>True) 0 false 171 1 [] [(1000,tbX p)] [],[],rfl,Wk.mkG [] rfl rfl rfl rfl rfl trivial ⟨zQ rfl rfl ⟨LeC.refl _ rfl,LeC.refl _ rfl,LeC.refl _ rfl,LeC.refl _ rfl,LeC.refl _ rfl,LeC.any _,trivial⟩ rfl,trivial⟩ rfl rfl (fun _ _=>trivial),rfl,rfl⟩
   by_cases d2:s.ch=c;rotate_left
   ·rw[if_neg fun h=>d2 h.2]at hfw
    obtain rfl:none=V:=hfw;refine vB [7,8] ?_;refine AWp.die ?_;refine ADie.split 19 ?_;refine xE5 ?_;refine zG (aP (k:=0) zA) ?_;refine vA ?_;refine zAk zA (e54) rfl rfl rfl rfl rfl oM ?_;refine xE5 ?_;refine zG (aP (k:=0) zA) ?_;refine vA ?_;refine zAk zA (e62) rfl rfl rfl rfl rfl oM ?_;refine xE3 ?_;refine aB ?_;refine ADie.call [] [] [] [] [] [] [] [] [] rfl FnV.func rfl Try.func53 rfl xC (trivial) (trivial) rfl (by exact⟨.c (.b (.imm _ rfl)),trivial⟩) (trivial) (trivial) (zC2) ?_
    refine⟨rfl,mkG (fun _=>True) 0 false 171 1 [] [(1000,tbX p)] [],[],rfl,Wk.mkG [] rfl rfl rfl rfl rfl trivial ⟨zQ rfl rfl ⟨LeC.refl _ rfl,LeC.refl _ rfl,LeC.refl _ rfl,LeC.refl _ rfl,LeC.refl _ rfl,LeC.any _,trivial⟩ rfl,trivial⟩ rfl rfl (fun _ _=>trivial),rfl,rfl⟩
   rw[if_pos ⟨d1,d2⟩]at hfw
   repeat (first
    |refine vB [7,8] ?_
    | (refine rG 9 ?_
       refine xE5 ?_;refine zG (aP (k:=0) zA) ?_;refine vA ?_;refine zAk zA (e54) rfl rfl rfl rfl rfl oM ?_;refine xE5 ?_;refine zG (aP (k:=0) zA) ?_;refine vA ?_;refine zAk zA (e62) rfl rfl rfl rfl rfl oM ?_;refine xE3 ?_;refine xB Try.func53 zET ?_;refine aB ?_)
    | (refine rG 10 ?_
       refine vA ?_;refine zG (aP (k:=0) zA) ?_;refine zE1 zA (e69) rfl rfl rfl rfl rfl oM ?_;refine xE2 ?_;refine aB ?_)
    | (refine rG 11 ?_
       refine vA ?_;refine AList.cut (l:=1) (h:=(s::r).length) zA rfl rfl rfl rfl rfl rfl rfl ⟨_,_,rfl,by first|rfl|omega⟩ rfl xD xD ?_;refine vA ?_;refine aB ?_))
   refine AWp.weak (S':=mkG (fun _=>True) 0 false 171 1 [(0,.c (.pt 1000 6 0 0)),(1,.c (zAX r)),(5,.c (iC (ch.length:Nat))),(6,.c (lsR (rdL p.R))),(7,.c (iC (c:Nat))),(8,.c (.pt 8 8 0 0)),(43,.c (iC (n:Nat))),(44,.c (iC (c:Nat)))] [(8,⟨false,1,8,77,lF (stC s)⟩),(30,chI ch),(1000,tbB p 30)] [8,30]) (Wk.mkG [(8,some 8),(30,some 30)] rfl rfl rfl rfl rfl ?_ ?_ rfl rfl (fun _ _=>trivial)) ?_
   ·repeat (first|exact trivial|refine⟨⟨_,rfl,by first|exact LeA.c (LeC.ptB _ _ _ _ rfl)|exact LeA.c (zDR rfl (zSo s r))|exact leT⟩,?_⟩)
   ·exact⟨hSm,HeapOk.row rfl rfl rfl (fun _ _=>zY ⟨rfl,rfl⟩),zQ rfl rfl ⟨LeC.refl _ rfl,LeC.refl _ rfl,LeC.refl _ rfl,LeC.refl _ rfl,LeC.refl _ rfl,LeC.ow _ _ rfl,trivial⟩ rfl,trivial⟩
   clear e54 e62 e69 hl2 hll hl0
   obtain⟨nm,sc,wi,rd,dp,cl⟩:=s
   dsimp only at d1 d2 hfw
   cases dp with
   | true=>
     have hdA:=zMf (ch.length:Nat) (c:Nat);have hq:=zOi ⟨nm,sc,wi,rd,true,cl⟩ (zBW ch.length c);by_cases d3:(⟨nm,sc,wi,rd,true,cl⟩:Stp)=zBW ch.length c;rotate_left
     ·rw[if_pos rfl,if_neg d3]at hfw
      obtain rfl:none=V:=hfw;rw[decide_eq_false d3]at hq;refine vB [12] ?_;refine zE2 5 zL ?_;refine xE3 ?_;refine xB Try.func83 hdA ?_;refine zEo rfl rfl rfl rfl rfl rfl xC (hq) ?_;refine aB ⟨by kernel_rfl,?_⟩;refine ADie.call [] [] [] [] [] [] [] [] [] rfl FnV.func rfl Try.func53 rfl xC (trivial) (trivial) rfl (by exact⟨.c (.b (.imm _ rfl)),trivial⟩) (trivial) (trivial) (zC2) ?_
      refine⟨rfl,mkG (fun _=>True) 0 false 171 1 [] [(1000,tbX p)] [],[],rfl,Wk.mkG [] rfl rfl rfl rfl rfl trivial ⟨zQ rfl rfl ⟨LeC.refl _ rfl,LeC.refl _ rfl,LeC.refl _ rfl,LeC.refl _ rfl,LeC.refl _ rfl,LeC.any _,trivial⟩ rfl,trivial⟩ rfl rfl (fun _ _=>trivial),rfl,rfl⟩
     rw[if_pos rfl,if_pos d3]at hfw;rw[decide_eq_true d3]at hq;have hck:ChOk p (ch++ [(c:Int)]):=hc.snoc (hp.pk hi (by rw[hn];exact hcl))
     obtain⟨hF1,hF2⟩:=hih (ch++ [(c:Int)]) r (by rw[List.length_append,List.length_singleton];omega) hck hlr
     repeat (first
      |refine vB [12] ?_
      |(refine AWp.draw (id:=16) zL ?_;refine xE3 ?_;refine xB Try.func83 hdA ?_;refine zEo rfl rfl rfl rfl rfl rfl xC (hq) ?_;refine xB Try.func53 zET ?_;refine aB ⟨by kernel_rfl,?_⟩)
      | (refine rG 17 ?_
         refine xE7 ?_;refine zCt zA rfl rfl rfl rfl rfl rfl rfl rfl rfl rfl oM oM ?_;refine xE3 ?_;refine aB ?_))
     refine AWp.weak (S':=mkG (fun _=>True) 0 false 171 1 [(0,.c (.pt 1000 6 0 0)),(1,.c (zAX r)),(5,.c (iC (ch.length:Nat))),(6,.c (lsR (rdL p.R))),(43,.c (iC (n:Nat))),(44,.c (iC (c:Nat)))] [(30,chI (ch++ [(c:Int)])),(1000,tbB p 30)] [30]) (Wk.mkG [(30,some 154)] rfl rfl rfl rfl rfl ?_ ?_ rfl rfl (fun _ _=>trivial)) ?_
     ·repeat (first|exact trivial|refine⟨⟨_,rfl,by first|exact LeA.c (LeC.ptB _ _ _ _ rfl)|exact leT⟩,?_⟩)
     ·exact⟨HeapOk.row rfl rfl List.length_append (zEz ch c),zQ rfl rfl ⟨LeC.refl _ rfl,LeC.refl _ rfl,LeC.refl _ rfl,LeC.refl _ rfl,LeC.refl _ rfl,LeC.ow _ _ rfl,trivial⟩ rfl,trivial⟩
     cases hfv:zBs p m (ch++ [(c:Int)]) r with
     | none=>
       rw[hfv]at hfw;obtain rfl:none=V:=hfw;have hdie:=hF2 hfv;refine AWp.die ?_;refine ADie.split 2 ?_;refine xE2 ?_;refine aB ?_;refine ADie.call [1000] [30] [] [tbB p 800] [chI (ch++ [(c:Int)])] [tbX p] [] [tbX p] [] rfl FnV.func rfl Try.func54 rfl xC (zCd 0 rfl rfl trivial) (⟨⟨_,rfl,rfl,fun _ _ _ _=>⟨rfl,rfl⟩⟩,trivial⟩) rfl (by exact⟨.c (.b (.pt 1000 0 6 0 0 rfl)),.c (.b (.imm _ rfl)),trivial⟩) (zOr trivial) (trivial) (hdie) ?_
       refine⟨rfl,mkG (fun _=>True) 0 false 171 1 [] [(1000,tbX p)] [],[],rfl,Wk.mkG [] rfl rfl rfl rfl rfl trivial ⟨zQ rfl rfl ⟨LeC.refl _ rfl,LeC.refl _ rfl,LeC.refl _ rfl,LeC.refl _ rfl,LeC.refl _ rfl,LeC.any _,trivial⟩ rfl,trivial⟩ rfl rfl (fun _ _=>trivial),rfl,rfl⟩
     | some x=>
       rw[hfv]at hfw
       replace hfw:zCL p (zBs p m) ch k (c+1) x=V:=hfw
       have hgo:=hF1 x hfv;have hxl:x.length≤1000000:=Nat.le_trans (zMG p m _ _ _ hfv) hlr;have h34:ch.length≤((34,chI (ch++ [(c:Int)])):Nat×AB).snd.n:=by show _≤(ch++ [(c:Int)]).length;rw[List.length_append];omega
       repeat (first
        |refine vB [20] ?_
        | (refine rG 18 ?_
           refine xE2 ?_;refine zBT [1000] [30] [34] [tbB p 800] [chI (ch++ [(c:Int)])] [tbB p 900] [chI (ch++ [(c:Int)])] [tbB p 34] [chI (ch++ [(c:Int)])] rfl rfl FnV.func rfl Try.func54 rfl xC (zCd 0 rfl rfl trivial) (⟨⟨_,rfl,rfl,fun _ _ _ _=>⟨rfl,rfl⟩⟩,trivial⟩) rfl (by exact⟨.c (.b (.pt 1000 0 6 0 0 rfl)),.c (.b (.imm _ rfl)),trivial⟩) (.c (.imm _ rfl)) (zCD 0 rfl trivial) (⟨⟨_,rfl,fun _ _ _ _=>.imm _ rfl⟩,trivial⟩) (hgo) ?_;refine vA ?_;refine aB ?_)
        | (refine rG 19 ?_
           refine xE6 ?_;refine zKp (m:=ch.length) zA rfl rfl rfl rfl rfl rfl rfl rfl rfl ⟨_,_,rfl,by first|rfl|omega⟩ xD ?_;refine xE3 ?_;refine aB ?_))
       refine⟨(c+1,x),⟨hcl,hxl,by dsimp only;rw[hk2];exact hfw⟩,Wk.mkG [(30,some 166)] rfl rfl rfl rfl rfl ?_ ?_ rfl rfl (fun _ _=>trivial),by dsimp only;omega⟩
       ·repeat (first|exact trivial|refine⟨⟨_,rfl,by first|exact LeA.c (LeC.ptB _ _ _ _ rfl)|exact leT⟩,?_⟩)
       ·exact⟨HeapOk.row rfl rfl rfl (fun k hk=>zY ⟨congrArg iC (zFd hk),rfl⟩),zQ rfl rfl ⟨LeC.refl _ rfl,LeC.refl _ rfl,LeC.refl _ rfl,LeC.refl _ rfl,LeC.refl _ rfl,LeC.ow _ _ rfl,trivial⟩ rfl,trivial⟩
   | false =>
     rw[if_neg (by decide)]at hfw;have hg0:¬(wi<ch.length∧-(p.F.length:Int)≤wi∧0≤rd∧rd<(rdL p.R).length)→none=V:=fun h=>by
      rw[if_neg]at hfw
      ·exact hfw
      ·unfold zDk
       rw[decide_eq_false h,Bool.false_and];exact Bool.false_ne_true
     have hF0:=hp.f;by_cases g1:wi<ch.length;rotate_left
     ·obtain rfl:=hg0 fun h=>g1 h.1
      refine vB [12] ?_;refine zE2 28 zL ?_
      (iterate 28 refine vA ?_);refine aB ⟨by kernel_rfl,?_⟩;refine ADie.call [] [] [] [] [] [] [] [] [] rfl FnV.func rfl Try.func53 rfl xC (trivial) (trivial) rfl (by exact⟨.c (.b (.imm _ rfl)),trivial⟩) (trivial) (trivial) (zC2) ?_
      refine⟨rfl,mkG (fun _=>True) 0 false 171 1 [] [(1000,tbX p)] [],[],rfl,Wk.mkG [] rfl rfl rfl rfl rfl trivial ⟨zQ rfl rfl ⟨LeC.refl _ rfl,LeC.refl _ rfl,LeC.refl _ rfl,LeC.refl _ rfl,LeC.refl _ rfl,LeC.any _,trivial⟩ rfl,trivial⟩ rfl rfl (fun _ _=>trivial),rfl,rfl⟩
     by_cases g2:wi≥-(p.F.length:Int);rotate_left
     ·obtain rfl:=hg0 fun h=>g2 h.2.1
      refine vB [12] ?_;refine zE2 28 zL ?_
      (iterate 28 refine vA ?_);refine aB ⟨by kernel_rfl,?_⟩;refine ADie.call [] [] [] [] [] [] [] [] [] rfl FnV.func rfl Try.func53 rfl xC (trivial) (trivial) rfl (by exact⟨.c (.b (.imm _ rfl)),trivial⟩) (trivial) (trivial) (zC2) ?_
      refine⟨rfl,mkG (fun _=>True) 0 false 171 1 [] [(1000,tbX p)] [],[],rfl,Wk.mkG [] rfl rfl rfl rfl rfl trivial ⟨zQ rfl rfl ⟨LeC.refl _ rfl,LeC.refl _ rfl,LeC.refl _ rfl,LeC.refl _ rfl,LeC.refl _ rfl,LeC.any _,trivial⟩ rfl,trivial⟩ rfl rfl (fun _ _=>trivial),rfl,rfl⟩
     by_cases g3:rd≥0;rotate_left
     ·obtain rfl:=hg0 fun h=>g3 h.2.2.1
      refine vB [12] ?_;refine zE2 28 zL ?_
      (iterate 28 refine vA ?_);refine aB ⟨by kernel_rfl,?_⟩;refine ADie.call [] [] [] [] [] [] [] [] [] rfl FnV.func rfl Try.func53 rfl xC (trivial) (trivial) rfl (by exact⟨.c (.b (.imm _ rfl)),trivial⟩) (trivial) (trivial) (zC2) ?_
      refine⟨rfl,mkG (fun _=>True) 0 false 171 1 [] [(1000,tbX p)] [],[],rfl,Wk.mkG [] rfl rfl rfl rfl rfl trivial ⟨zQ rfl rfl ⟨LeC.refl _ rfl,LeC.refl _ rfl,LeC.refl _ rfl,LeC.refl _ rfl,LeC.refl _ rfl,LeC.any _,trivial⟩ rfl,trivial⟩ rfl rfl (fun _ _=>trivial),rfl,rfl⟩
     by_cases g4:rd<(rdL p.R).length;rotate_left
     ·obtain rfl:=hg0 fun h=>g4 h.2.2.2
      refine vB [12] ?_;refine zE2 28 zL ?_
      (iterate 28 refine vA ?_);refine aB ⟨by kernel_rfl,?_⟩;refine ADie.call [] [] [] [] [] [] [] [] [] rfl FnV.func rfl Try.func53 rfl xC (trivial) (trivial) rfl (by exact⟨.c (.b (.imm _ rfl)),trivial⟩) (trivial) (trivial) (zC2) ?_
      refine⟨rfl,mkG (fun _=>True) 0 false 171 1 [] [(1000,tbX p)] [],[],rfl,Wk.mkG [] rfl rfl rfl rfl rfl trivial ⟨zQ rfl rfl ⟨LeC.refl _ rfl,LeC.refl _ rfl,LeC.refl _ rfl,LeC.refl _ rfl,LeC.refl _ rfl,LeC.any _,trivial⟩ rfl,trivial⟩ rfl rfl (fun _ _=>trivial),rfl,rfl⟩
     clear hg0
     obtain⟨mr,rfl⟩:=Int.eq_ofNat_of_zero_le g3
     have hmr:mr<(rdL p.R).length:=by omega
     have hO:=zNs p hp ch wi (by
      by_cases h:wi<0
      ·exact .inl ⟨(-1-wi).toNat,by omega,by omega,by have:=hp.t;omega⟩
      ·exact .inr ⟨wi.toNat,by omega,by omega⟩) hc
     have hH:=zQ9 ((rdL p.R).getD mr rdZ) ((p.C.getD ch.length []).getD c bpZ) (obB p ch wi) (p.O.getD ch.length bgZ) (obG p wi) cl (hrl _ (zAJ hmr));have hgd:zDk p ch c ⟨nm,sc,wi,mr,false,cl⟩=zD3 ((rdL p.R).getD mr rdZ) ((p.C.getD ch.length []).getD c bpZ) (obB p ch wi) (p.O.getD ch.length bgZ) (obG p wi) cl:=by
      unfold zDk;rw[decide_eq_true ⟨g1,g2,g3,g4⟩,Bool.true_and]
      rfl
     rw[hgd]at hfw;generalize zD3 ((rdL p.R).getD mr rdZ) ((p.C.getD ch.length []).getD c bpZ) (obB p ch wi) (p.O.getD ch.length bgZ) (obG p wi) cl=hv at *;generalize obB p ch wi=B at *;generalize obG p wi=G at *
     cases hv with
     | false=>
       obtain rfl:none=V:=hfw
       repeat (first
        |refine vB [12] ?_
        |(refine AWp.draw (id:=13) zL ?_;(iterate 28 refine vA ?_);refine xB Try.func53 zET ?_;refine aB ⟨by kernel_rfl,?_⟩)
        | (refine rG 14 ?_
           refine xE3 ?_;refine zBT [1000] [30] [31] [tbB p 800] [chI ch] [tbB p 900] [chI ch] [tbB p 31] [chI ch] rfl rfl FnV.func rfl Try.func81 rfl xC (zCd 0 rfl rfl trivial) (⟨⟨_,rfl,rfl,fun _ _ _ _=>⟨rfl,rfl⟩⟩,trivial⟩) rfl (by exact⟨.c (.b (.pt 1000 0 6 0 0 rfl)),.c (.b (.imm _ rfl)),trivial⟩) (zDU (bpC B) (bgC G) rfl rfl) (zCD 0 rfl trivial) (⟨⟨_,rfl,fun _ _ _ _=>.imm _ rfl⟩,trivial⟩) (hO) ?_;refine xE7 ?_;refine aB ?_))
       refine zE2 29 zL ?_;refine xE3 ?_;refine zG (aP (k:=mr) zA) ?_;refine xE7 ?_;refine zG (aP (k:=ch.length) zA) ?_;refine zAk zA (hcF) rfl rfl rfl rfl rfl oM ?_;refine vA ?_;refine zG (aP (k:=c) zA) ?_;refine xE8 ?_;refine zG (aP (k:=ch.length) zA) ?_;refine xE4 ?_;refine xB Try.func82 hH ?_;refine aB ⟨by kernel_rfl,?_⟩;refine ADie.call [] [] [] [] [] [] [] [] [] rfl FnV.func rfl Try.func53 rfl xC (trivial) (trivial) rfl (by exact⟨.c (.b (.imm _ rfl)),trivial⟩) (trivial) (trivial) (zC2) ?_
       refine⟨rfl,mkG (fun _=>True) 0 false 171 1 [] [(1000,tbX p)] [],[],rfl,Wk.mkG [] rfl rfl rfl rfl rfl trivial ⟨zQ rfl rfl ⟨LeC.refl _ rfl,LeC.refl _ rfl,LeC.refl _ rfl,LeC.refl _ rfl,LeC.refl _ rfl,LeC.any _,trivial⟩ rfl,trivial⟩ rfl rfl (fun _ _=>trivial),rfl,rfl⟩
     | true=>
       replace hfw:zCL p (zBs p m) ch k (c+1) r=V:=hfw
       repeat (first
        |refine vB [12,20] ?_
        |(refine AWp.draw (id:=13) zL ?_;(iterate 28 refine vA ?_);refine xB Try.func53 zET ?_;refine aB ⟨by kernel_rfl,?_⟩)
        | (refine rG 14 ?_
           refine xE3 ?_;refine zBT [1000] [30] [31] [tbB p 800] [chI ch] [tbB p 900] [chI ch] [tbB p 31] [chI ch] rfl rfl FnV.func rfl Try.func81 rfl xC (zCd 0 rfl rfl trivial) (⟨⟨_,rfl,rfl,fun _ _ _ _=>⟨rfl,rfl⟩⟩,trivial⟩) rfl (by exact⟨.c (.b (.pt 1000 0 6 0 0 rfl)),.c (.b (.imm _ rfl)),trivial⟩) (zDU (bpC B) (bgC G) rfl rfl) (zCD 0 rfl trivial) (⟨⟨_,rfl,fun _ _ _ _=>.imm _ rfl⟩,trivial⟩) (hO) ?_;refine xE7 ?_;refine aB ?_)
        |(refine AWp.draw (id:=15) zL ?_;refine xE3 ?_;refine zG (aP (k:=mr) zA) ?_;refine xE7 ?_;refine zG (aP (k:=ch.length) zA) ?_;refine zAk zA (hcF) rfl rfl rfl rfl rfl oM ?_;refine vA ?_;refine zG (aP (k:=c) zA) ?_;refine xE8 ?_;refine zG (aP (k:=ch.length) zA) ?_;refine xE4 ?_;refine xB Try.func82 hH ?_;refine xB Try.func53 zET ?_;refine aB ⟨by kernel_rfl,?_⟩))
       refine⟨(c+1,r),⟨hcl,hlr,by dsimp only;rw[hk2];exact hfw⟩,Wk.mkG [(30,some 31)] rfl rfl rfl rfl rfl ?_ ?_ rfl rfl (fun _ _=>trivial),by dsimp only;omega⟩
       ·repeat (first|exact trivial|refine⟨⟨_,rfl,by first|exact LeA.c (LeC.ptB _ _ _ _ rfl)|exact leT⟩,?_⟩)
       ·exact⟨HeapOk.row rfl rfl rfl (fun _ _=>zY ⟨rfl,rfl⟩),zQ rfl rfl ⟨LeC.refl _ rfl,LeC.refl _ rfl,LeC.refl _ rfl,LeC.refl _ rfl,LeC.refl _ rfl,LeC.ow _ _ rfl,trivial⟩ rfl,trivial⟩
end Go.Proofs.Ytbffmfeldkjkcaa
end
section
namespace Go.AV
open Go Go.RowKit Go.Flow
section
variable{P:Program}{t:Tmp}{Q:Exit→St→Prop}{S:St}
theorem DWp.die{id:Nat}{l:List Oper}(hl:l.all (fun o=>o.dst !=some t)=true)(hQ:∀S,¬Q .outgrown S)(h:ADie P l.toArray l S Q):DWp P t (.region id l.toArray false) Q S:=⟨fun b0 a a' w v d ds hR hi=>
 wpIn_region_lit (zKd (Q:=fun e a w=>∃S',Rel b0 S' a w∧Q e S') (fun e a a' w hi ⟨S',h1,h2⟩=>⟨S',a,h1,hi,h2⟩) (zMm hQ) l a a' w (fun o ho=>by have:=List.all_eq_true.1 hl o ho;simpa using this) hi (h.get _ b0 a w _ hR fun e S a w h1 h2=>⟨S,h1,h2⟩))⟩
end
theorem zHo{P:Program}{fn:Func}{tmps:Array Value}{R:Ending→World→Prop}{w0:World}{b:Nat}{o:Obj}(ho:o≠ .deferred (some [])){u:FrameMode}(hu:u≠ .run){ds tl:List Deferred}
 (rest:∀w,Marks w0.heap.size ds w→w.heap[b]?=some o→Ext w0 w→LeavesInM Fence.wide 0 P fn tmps R tl u w):
 ∀(pre:List Deferred) (w:World),Marks w0.heap.size (pre++ds) w→w.heap[b]?=some o→Ext w0 w→LeavesInM Fence.wide 0 P fn tmps R (pre++tl) u w
 | [],w,hm,hb,hE=>rest w hm hb hE
 | d::pre,w,hm,hb,hE=>by
   obtain⟨⟨D,e1,e2,e3,e4⟩,hm⟩:=hm
   have hne:b≠D:=fun e=>by subst e;rw[e3]at hb;cases hb;exact ho rfl
   have hk:Keep (fun k=>k=D) w (w.putObj D (.deferred none)):=⟨rfl,rfl,rfl,by rw[World.putObj_size];exact Nat.le_refl _,fun k _ hk=>World.putObj_heap_other hk⟩
   refine⟨hu,.inl ⟨D,_,by rw[e1],run_takeDeferred e3,?_⟩⟩
   exact zHo ho hu rest pre _ (Marks.put e4 hm) ((World.putObj_heap_other hne).trans hb) (hk.ext hE fun k hk=>by subst hk;exact e2)
theorem zPD{P:Program}{f:FuncId}{fn:Func}{c:Code}{args:List V1}{v:Value}(hv1:v.oneCell'=true)(hf:P.funcs[f]?=some fn)(hb:fn.body=some c)(hn:args.length≤fn.ntmps)
 (h:∀(b2:zI) (a:Act),b2.rd=none→(∀b,¬b2.Y b)→(∀d b,¬b2.V d b)→Rel b2 (zBn fn.ntmps args []) a b2.w→c.wpIn (fnc b2.rd) 0 P (bodyPostM Fence.wide 0 P fn (fun e w'=>e=.returned v∧Ext b2.w w')) a b2.w):ACalls P f args (.c (.p v)):=
 ACalls.of fun O w vals hO hv=>by
  have hl:=hv.length
  let b2:zI:=⟨w,O,fun _=>False,fun _=>none,hO,fun _ h=>h.elim,fun _ _ h=>h,(fun _ _ h=>by cases h),fun _ _=>False,fun _ _ _=>True,none,fun _ _ h=>h.elim,fun _ _ _ _ _ _ _ _=>trivial⟩
  have hno:∀b,own (fun _=>none) (zB ([]:List (Nat×AB))) b→False:=fun b ⟨i,v,h1,_⟩=>h1 rfl
  have hR:Rel b2 (zBn fn.ntmps args []) {tmps:=vals.toArray++Array.replicate (fn.ntmps-vals.toArray.size) undef,defers:= []} w:=by
   refine⟨fun _=>none,trivial,?_,⟨rfl,rfl,rfl,Nat.le_refl _,fun _ _ _=>rfl⟩,⟨fun i B hB=>(by cases hB),fun i j v1 v2 b hi=>absurd rfl hi,fun b hb=>(hno b hb).elim,fun i v hi=>(by cases hi),fun _ _ _=>rfl⟩,fun t x hx=> ?_,fun id hid=> ?_,(fun i v hi=>by cases hi),rfl,trivial⟩
   ·simp[zBn,hl];omega
   ·obtain⟨y,e1,rfl⟩:∃y,args[t]?=some y∧y.av=x:=by simpa[zBn,Option.map_eq_some_iff]using hx
    obtain⟨v,e2,e3⟩:=hv.get e1
    have ht:(vals.toArray++Array.replicate (fn.ntmps-vals.toArray.size) undef).getD t undef=v:=by
     have hlt:=(List.getElem?_eq_some_iff.1 e2).1;have:=(List.getElem?_eq_some_iff.1 e2).2
     simp[Array.getD_eq_getD_getElem?,Array.getElem?_append,hlt,this]
    rw[ht]
    exact(e3.keep (O':=out b2 (fun _=>none) (zB [])) (Keep.of_ext (Ext.refl w)) (fun b hb=>.inl (hb.elim (fun h=>(hno b h).elim) id)) fun _ _ h=>h).av
   ·exact⟨rfl,Nat.blt_eq.mp hid⟩
  refine Calls.mono (callsIn_wide.1 (callsIn_of_wp_marks (F:=Fence.wide) (n:=0) hf hb trivial (h b2 _ rfl (fun _ h=>h) (fun _ _ h=>h) hR))) fun e w' ⟨h1,h2⟩=>⟨v,h1,zB2 hv1,h2⟩
theorem zIg{P:Program}{f g:FuncId}{fn:Func}{x0 x1 z:Code}{i4:Nat}{ops4:List Oper}{t:Tmp}{args:List V1}{v:Value}{n:Nat}{S1 S2:St}{Qz:Exit→St→Prop}(hv1:v.oneCell'=true)(hf:P.funcs[f]?=some fn)(hb:fn.body=some (.seq x0 (.seq x1 (.seq (.region i4 ops4.toArray false) z))))(hn:fn.ntmps=n)(hl:Nat.ble args.length n=true)
 (hA:AWp P x0 (fun e S'=>e=.normal∧AWp P x1 (fun e S'=>e=.normal∧Wk S' S1) S') (zBn n args [])) (h4:ADt P t g ops4.toArray ops4 S1 S2) (hz:DWp P t z Qz S2)
 (hfin:∀(b2:zI) (a a':Act) (w:World) (u:Value) (ds:List Deferred) (e:Exit) (S:St),(∀b,¬b2.Y b)→(∀d b,¬b2.V d b)→Rel b2 S a w→Ins t u {target:=.fn (.func g) #[u],args:= #[]} ds a a'→Qz e S→bodyPostM Fence.wide 0 P fn (fun e w'=>e=.returned v∧Ext b2.w w') e a' w):ACalls P f args (.c (.p v)):=by
 subst hn;refine zPD hv1 hf hb (Nat.ble_eq.mp hl) fun b2 a hrd hY hV hR=> ?_
 refine wpIn_seq (wpIn_mono (hA.get b2 a _ hR) fun e a w ⟨S',h1,h2,h3⟩=> ?_);subst h2;refine wpIn_seq (wpIn_mono (h3.get b2 a w h1) fun e a w ⟨S',h1,h2,h3⟩=> ?_);subst h2;refine wpIn_seq (wpIn_region_lit (h4.get b2 a w _ hrd (h3 b2 a w h1) fun a a' w u ds h1 h2=> ?_));exact wpIn_mono (hz.get b2 a a' w u _ ds h1 h2) fun e a' w ⟨S,a,k1,k2,k3⟩=>hfin b2 a a' w u ds e S hY hV k1 k2 k3
end Go.AV
end
section
namespace Go.Proofs.Ytbffmfeldkjkcaa
open Go.RowKit Go.Flow Go.AV Go.Plain
theorem zS4(w:World):(Instr.typeAssert .nilIface 20 115 true).run Try.prog w=.ok (.tuple #[.agg #[],.bool false]) w:=by kernel_rfl
theorem zS5(w:World):(Instr.typeAssert (.iface 115 (.agg #[])) 20 115 true).run Try.prog w=.ok (.tuple #[.agg #[],.bool true]) w:=by kernel_rfl
theorem zP6(n:Nat)(p:Addr)(w:World):
 CallsDIn Fence.wide n Try.prog 52 #[.pointer (some p)] .returning w fun e u' w'=>e=.returned (.tuple #[])∧u'=.returning∧w'=w.alloc (.cells #[] 115):=by
 refine callsDIn_of_wpSIn Try.func52 rfl trivial fun c₀ cs hu=> ?_
 apply wpSIn_seq
 apply wpSIn_region
 simp[wpOpsSIn,go_sem,recoverD,hu,Try.ntmps52,Exit.thenS,zS4]
 apply wpSIn_seq
 apply wpSIn_region
 simp[wpOpsSIn,go_sem,Exit.thenS]
 refine wpSIn_cond (t:=false) (by simp[Act.eval,Array.replicate]) ?_
 simp only[Bool.false_eq_true,if_false]
 refine wpSIn_of_wpIn rfl (wpIn_skip ?_)
 cases c₀
 simp_all [bodyPostS,results,Try.results52]
abbrev zTM:Value:=.iface 115 (.agg #[])
theorem zP7(n b:Nat)(x:Value)(w:World)(hb:w.heap[b]?=some (.cells #[x] 43 (0,0))):
 CallsDIn Fence.wide n Try.prog 52 #[.pointer (some ⟨b,0,none⟩)] (.panicking zFD) w fun e u' w'=>e=.returned (.tuple #[])∧u'=.panicking [{v:=zTM,recovered:=true}]∧w'=(w.alloc (.cells #[] 115)).setCell ⟨b,0,none⟩ (.int .i64 62):=by
 refine callsDIn_of_wpSIn Try.func52 rfl trivial fun c₀ cs hu=> ?_
 have hlt:b<w.heap.size:=(Array.getElem?_eq_some_iff.1 hb).1;have hb2:(w.alloc (.cells #[] 115)).heap[b]?=some (.cells #[x] 43 (0,0)):=(Below.heap_alloc _ _ _ hlt).trans hb;have hc:(w.alloc (.cells #[] 115)).cell? ⟨b,0,none⟩=some x:=by simp[World.cell?,hb2]
 have hz:(w.alloc (.cells #[] 115)).frozen? ⟨b,0,none⟩=false:=by simp[World.frozen?,hb2]
 apply wpSIn_seq
 apply wpSIn_region
 simp[wpOpsSIn,go_sem,recoverD,hu,Try.ntmps52,Exit.thenS,zS5]
 apply wpSIn_seq
 apply wpSIn_region
 simp[wpOpsSIn,go_sem,Exit.thenS]
 refine wpSIn_cond (t:=true) (by simp[Act.eval,Array.replicate]) ?_
 simp only[if_true]
 apply wpSIn_region
 simp[wpOpsSIn,go_sem,hc,hz,bodyPostS,results,Try.results52]
abbrev chZ:St:=zD 20 [(4,.c (.pt 4 1 0 0))] [(4,bxE)] [4]
theorem zLN{b2:zI}{a:Act}{w:World}(hY:∀b,¬b2.Y b)(hV:∀d b,¬b2.V d b)(hR:Rel b2 chZ a w):∃b,a.tmps.getD 4 undef=.pointer (some ⟨b,0,none⟩)∧w.heap[b]?=some (.cells #[.int .i64 0] 43 (0,0))∧b2.w.heap.size≤b∧Ext b2.w w∧Marks b2.w.heap.size a.defers w:=by
 obtain⟨σ,R⟩:=hR
 obtain⟨b,cap,cs,h1,h2,h3,h4,h5,-,h6⟩:=zDT R (R.sl 4 (.c (.pt 4 1 0 0)) rfl) (show chZ.h 4=some bxE from rfl) rfl (by decide)
 obtain⟨u,k1,k2⟩:=h6 0 (by decide) 0 (by decide)
 obtain rfl:u=.int .i64 0:=k2.2;have hcap:cap=1:=by
  rcases h1 with ⟨h,_⟩|⟨_,_,h⟩
  ·cases h
  ·exact h
 subst hcap;have hcs:cs= #[.int .i64 0]:=by
  have:cs.size=1:=h5
  apply Array.ext
  ·simpa using this
  ·intro i hi _
   obtain rfl:i=0:=by omega
   have:=(Array.getElem?_eq_some_iff.1 k1).2
   simpa using this
 subst hcs
 refine⟨b,by simpa using h2,h4,?_,R.ext.ext (Ext.refl _) (fun b hb=>(hb.elim (hY b) (hV _ b)).elim),R.df⟩
 refine(R.hp.new b ⟨4,_,by show some bxE≠none;simp,h3,h1.blk⟩).elim id fun h=>(hY b h).elim
theorem zQd(tmps:Array Value)(b:Nat)(n:Int)(w:World)(ht:tmps.getD 4 undef=.pointer (some ⟨b,0,none⟩))(hb:w.heap[b]?=some (.cells #[.int .i64 n] 43 (0,0))):(results Try.f21 tmps).run Try.prog w=.ok (.int .i64 n) w:=by
 have hc:w.cell? ⟨b,0,none⟩=some (.int .i64 n):=by simp[World.cell?,hb]
 obtain⟨ud,g1,g2⟩:=zFz zA (t:=43) rfl rfl
 rw[zEU,show(Try.f21).results= #[.cell 4 43]from rfl];have ht':tmps[4]?.getD undef=.pointer (some ⟨b,0,none⟩):=by rw[←Array.getD_eq_getD_getElem?];exact ht
 simp[zBI,ht',asAddr,Sem.run_bind,zGo g1 g2 hc]
theorem zLP{b2:zI}{tmps:Array Value}{b:Nat}{n:Int}(ht:tmps.getD 4 undef=.pointer (some ⟨b,0,none⟩))(ds:List Deferred)(w:World)(hm:Marks b2.w.heap.size ds w)(hb:w.heap[b]?=some (.cells #[.int .i64 n] 43 (0,0)))(hE:Ext b2.w w):
 LeavesInM Fence.wide 0 Try.prog Try.f21 tmps (fun e w'=>e=.returned (.int .i64 n)∧Ext b2.w w') ds .returning w:=by
 have:=zHo (P:=Try.prog) (fn:=Try.f21) (tmps:=tmps) (R:=fun e w'=>e=.returned (.int .i64 n)∧Ext b2.w w') (w0:=b2.w) (b:=b) (o:=.cells #[.int .i64 n] 43 (0,0)) (by simp) (u:=.returning) (by simp) (ds:= []) (tl:= []) (fun w _ hb hE=>⟨_,zQd tmps b n w ht hb,rfl,hE⟩) ds w (by rw[List.append_nil];exact hm) hb hE
 rwa [List.append_nil]at this
theorem zLQ{b:Nat}(w:World):(invoke (.fn (.func 52) #[.pointer (some ⟨b,0,none⟩)]) #[]).run Try.prog w=.ok (.enter 52 #[.pointer (some ⟨b,0,none⟩)]) w:=
 enters_of Try.func52 xC rfl #[.pointer (some ⟨b,0,none⟩)] w
theorem zQa{b2:zI}{a a':Act}{w:World}{u:Value}{ds:List Deferred}(hY:∀b,¬b2.Y b)(hV:∀d b,¬b2.V d b)(hR:Rel b2 chZ a w)(hi:Ins 4 u {target:=.fn (.func 52) #[u],args:= #[]} ds a a'):
 LeavesInM Fence.wide 0 Try.prog Try.f21 a'.tmps (fun e w'=>e=.returned (.int .i64 0)∧Ext b2.w w') a'.defers .returning w:=by
 obtain⟨b,h1,h2,h3,h4,h5⟩:=zLN hY hV hR
 obtain⟨i1,i2,pre,i3,i4⟩:=hi
 rw[i1,i4];rw[i3]at h5;have hu:u=.pointer (some ⟨b,0,none⟩):=i2.symm.trans h1;subst hu;refine zHo (w0:=b2.w) (b:=b) (o:=.cells #[.int .i64 0] 43 (0,0)) (by simp) (by simp) (ds:=ds) (fun w hm hb hE=> ?_) pre w h5 h2 h4
 refine⟨by simp,.inr ⟨(fun h=>by cases h),_,_,52,_,rfl,zLQ w,fun _ _=>trivial,(zP6 0 ⟨b,0,none⟩ w).mono ?_⟩⟩
 rintro e u' w' ⟨rfl,rfl,rfl⟩
 have hlt:b<w.heap.size:=(Array.getElem?_eq_some_iff.1 hb).1;exact zLP h1 ds _ (hm.same fun D hD=>Below.heap_alloc _ _ _ (Array.getElem?_eq_some_iff.1 hD).1) ((Below.heap_alloc _ _ _ hlt).trans hb) (hE.alloc _)
theorem zLO{b2:zI}{a a':Act}{w:World}{u:Value}{ds:List Deferred}(hY:∀b,¬b2.Y b)(hV:∀d b,¬b2.V d b)(hR:Rel b2 chZ a w)(hi:Ins 4 u {target:=.fn (.func 52) #[u],args:= #[]} ds a a'):
 LeavesInM Fence.wide 0 Try.prog Try.f21 a'.tmps (fun e w'=>e=.returned (.int .i64 62)∧Ext b2.w w') a'.defers (.panicking zFD) w:=by
 obtain⟨b,h1,h2,h3,h4,h5⟩:=zLN hY hV hR
 obtain⟨i1,i2,pre,i3,i4⟩:=hi
 rw[i1,i4];rw[i3]at h5;have hu:u=.pointer (some ⟨b,0,none⟩):=i2.symm.trans h1;subst hu;refine zHo (w0:=b2.w) (b:=b) (o:=.cells #[.int .i64 0] 43 (0,0)) (by simp) (by simp) (ds:=ds) (fun w hm hb hE=> ?_) pre w h5 h2 h4
 refine⟨by simp,.inr ⟨(fun h=>by cases h),_,_,52,_,rfl,zLQ w,fun _ _=>trivial,(zP7 0 b _ w hb).mono ?_⟩⟩
 rintro e u' w' ⟨rfl,rfl,rfl⟩
 have hlt:b<w.heap.size:=(Array.getElem?_eq_some_iff.1 hb).1;have hb2:(w.alloc (.cells #[] 115)).heap[b]?=some (.cells #[.int .i64 0] 43 (0,0)):=(Below.heap_alloc _ _ _ hlt).trans hb;have hb3:((w.alloc (.cells #[] 115)).setCell ⟨b,0,none⟩ (.int .i64 62)).heap[b]?=some (.cells #[.int .i64 62] 43 (0,0)):=by
  simp[World.setCell,Array.getElem?_modify,hb2]
 refine zLP h1 ds _ (hm.same fun D hD=> ?_) hb3 ((hE.alloc _).setCell h3 _);have hne:D≠b:=fun e=>by subst e;rw[hD]at hb;cases hb
 exact(Below.heap_setCell _ _ _ _ hne).trans (Below.heap_alloc _ _ _ (Array.getElem?_eq_some_iff.1 hD).1)
abbrev ck2(p:Pb)(l:List Stp):St:=zD 20 [(1,.c (zAX l)),(2,.c (plP p)),(4,.c (.pt 4 1 0 0))] [(4,bxE)] [4]
theorem zO2(p:Pb)(hp:p.ok)(l:List Stp)(hl:l.length≤1000000):ACalls Try.prog 21 [.ag (pbC p),.c (zAX l)] (.c (iC (zFW p l))):=by
 have hC:=zDz p hp;have hfit:= @zDf p hp;unfold zFW
 obtain⟨e,he⟩:∃e,zAr p=e:=⟨_,rfl⟩
 rw[he]at hC hfit⊢;by_cases h0:e=0;rotate_left
 ·rw [if_neg h0]
  refine zK Try.func21 rfl rfl Try.ntmps21 rfl ?_
  repeat (first
   |refine vB [0,2,3] ?_
   | (refine rG 1 ?_
      refine vA ?_;refine xB Try.func30 hC ?_;refine vA ?_;refine aB ?_))
  refine⟨zD 20 [(4,.c (.pt 4 1 0 0))] [(4,⟨false,1,1,43,lF [iC e]⟩)] [4],[(4,⟨false,1,1,43,lF [iC e]⟩)],Wk.mk [(4,some 4)] rfl rfl rfl ?_ ?_,rfl,rfl,ARets.one (x:=.c _) (zDb zA rfl rfl rfl rfl rfl rfl)⟩
  ·exact zC
  ·exact⟨hSm,trivial⟩
 subst h0;rw[if_pos rfl]
 obtain⟨hF1,hF2⟩:=zMF p (hfit rfl) p.C.length [] l (Nat.zero_add _) (fun k hk=>absurd hk (Nat.not_lt_zero _)) hl
 cases hv:zBs p p.C.length [] l with
 | none =>
   rw[if_neg (by simp)];refine zIg (t:=4) (g:=52) (S1:=ck2 p l) (S2:=ck2 p l) (Qz:=fun e S=>e=.panic zFD∧Wk S chZ) rfl Try.func21 rfl Try.ntmps21 rfl ?_ ?_ ?_ ?_
   ·refine vB [0] ?_
    refine⟨rfl,?_⟩
    repeat (first
     |refine vB [2] ?_
     | (refine rG 1 ?_
        refine vA ?_;refine xB Try.func30 hC ?_;refine vA ?_;refine aB ?_))
    refine⟨rfl,Wk.mk [(4,some 4)] rfl rfl rfl ?_ ?_⟩
    ·repeat (first|exact trivial|refine⟨⟨_,rfl,by first|exact LeA.c (zBq rfl rfl rfl rfl)|exact leT⟩,?_⟩)
    ·exact⟨hSm,trivial⟩
   ·refine ADt.split 1 ?_
    refine qr5 zC9 ?_;refine aB ?_;refine ADt.defer rfl rfl rfl rfl (Wk.mk [(4,some 4)] rfl rfl rfl ?_ ?_)
    ·exact zC
    ·exact⟨hSm,trivial⟩
   ·have hdie:=hF2 hv
    refine DWp.seq (DWp.die rfl (fun _ h=>by cases h.1) ?_);refine ADie.split 4 ?_;refine xE4 ?_;refine aB ?_;refine ADie.weak (S':=zD 20 [(4,.c (.pt 4 1 0 0)),(14,.c (.pt 14 6 0 0)),(15,.c (zAX l))] [(4,bxE),(14,tbB p 30),(30,chI [])] [4,14,30]) (Wk.mk [(4,some 4),(14,some 14),(30,none)] rfl rfl rfl ?_ ?_) ?_
    ·exact zC
    ·exact⟨hSm,HeapOk.box rfl rfl ⟨LeC.refl _ rfl,LeC.refl _ rfl,LeC.refl _ rfl,LeC.refl _ rfl,LeC.refl _ rfl,LeC.nil _ rfl,trivial⟩ rfl,HeapOk.nil rfl rfl,trivial⟩
    refine ADie.call [14] [30] [] [tbB p 800] [chI []] [tbX p] [] [tbX p] [] rfl FnV.func rfl Try.func54 rfl xC (zCd 0 rfl rfl trivial) (⟨⟨_,rfl,rfl,fun _ _ _ _=>⟨rfl,rfl⟩⟩,trivial⟩) rfl (by exact⟨.c (.b (.pt 14 0 6 0 0 rfl)),.c (.b (.imm _ rfl)),trivial⟩) (zOr trivial) (trivial) (hdie) ?_
    refine⟨rfl,Wk.mk [(4,some 4)] rfl rfl rfl ?_ ?_⟩
    ·exact zC
    ·exact⟨hSm,trivial⟩
   ·intro b2 a a' w u ds e S hY hV hR hi ⟨h1,h2⟩
    subst h1;exact zLO hY hV (h2 b2 a w hR) hi
 | some x=>
   have hgo:=hF1 x hv;by_cases hx:x= []
   ·subst hx
    rw[if_pos rfl];refine zIg (t:=4) (g:=52) (S1:=ck2 p l) (S2:=ck2 p l) (Qz:=fun e S=>e=.ret∧Wk S chZ) rfl Try.func21 rfl Try.ntmps21 rfl ?_ ?_ ?_ ?_
    ·refine vB [0] ?_
     refine⟨rfl,?_⟩
     repeat (first
      |refine vB [2] ?_
      | (refine rG 1 ?_
         refine vA ?_;refine xB Try.func30 hC ?_;refine vA ?_;refine aB ?_))
     refine⟨rfl,Wk.mk [(4,some 4)] rfl rfl rfl ?_ ?_⟩
     ·repeat (first|exact trivial|refine⟨⟨_,rfl,by first|exact LeA.c (zBq rfl rfl rfl rfl)|exact leT⟩,?_⟩)
     ·exact⟨hSm,trivial⟩
    ·refine ADt.split 1 ?_
     refine qr5 zC9 ?_;refine aB ?_;refine ADt.defer rfl rfl rfl rfl (Wk.mk [(4,some 4)] rfl rfl rfl ?_ ?_)
     ·exact zC
     ·exact⟨hSm,trivial⟩
    ·refine DWp.seq (DWp.text rfl (fun _ h=>by cases h.1) ?_)
     refine AText.split 4 ?_;refine xE4 ?_;refine aB ?_;refine AText.weak (S':=zD 20 [(4,.c (.pt 4 1 0 0)),(14,.c (.pt 14 6 0 0)),(15,.c (zAX l))] [(4,bxE),(14,tbB p 30),(30,chI [])] [4,14,30]) (Wk.mk [(4,some 4),(14,some 14),(30,none)] rfl rfl rfl ?_ ?_) ?_
     ·exact zC
     ·exact⟨hSm,HeapOk.box rfl rfl ⟨LeC.refl _ rfl,LeC.refl _ rfl,LeC.refl _ rfl,LeC.refl _ rfl,LeC.refl _ rfl,LeC.nil _ rfl,trivial⟩ rfl,HeapOk.nil rfl rfl,trivial⟩
     refine AText.all ?_;refine zBT [14] [30] [31] [tbB p 800] [chI []] [tbB p 900] [chI []] [tbB p 31] [chI []] rfl rfl FnV.func rfl Try.func54 rfl xC (zCd 0 rfl rfl trivial) (⟨⟨_,rfl,rfl,fun _ _ _ _=>⟨rfl,rfl⟩⟩,trivial⟩) rfl (by exact⟨.c (.b (.pt 14 0 6 0 0 rfl)),.c (.b (.imm _ rfl)),trivial⟩) (.c (.imm _ rfl)) (zCD 0 rfl trivial) (⟨⟨_,rfl,fun _ _ _ _=>.imm _ rfl⟩,trivial⟩) (hgo) ?_;refine xE2 ?_;refine xB Try.func53 zET ?_;refine aB ?_;refine DWp.seq (DWp.text rfl (fun _ h=>by cases h.1) ?_);refine AText.all ?_;refine vA ?_;refine aB ?_;refine DWp.ret ?_
     refine⟨rfl,Wk.mk [(4,some 4)] rfl rfl rfl ?_ ?_⟩
     ·exact zC
     ·exact⟨hSm,trivial⟩
    ·intro b2 a a' w u ds e S hY hV hR hi ⟨h1,h2⟩
     subst h1;exact zQa hY hV (h2 b2 a w hR) hi
   ·rw[if_neg (fun h=>hx (Option.some.inj h))]
    have hxl:¬(x.length:Int)=0:=fun h=>hx (List.eq_nil_of_length_eq_zero xD)
    refine zIg (t:=4) (g:=52) (S1:=ck2 p l) (S2:=ck2 p l) (Qz:=fun e S=>e=.panic zFD∧Wk S chZ) rfl Try.func21 rfl Try.ntmps21 rfl ?_ ?_ ?_ ?_
    ·refine vB [0] ?_
     refine⟨rfl,?_⟩
     repeat (first
      |refine vB [2] ?_
      | (refine rG 1 ?_
         refine vA ?_;refine xB Try.func30 hC ?_;refine vA ?_;refine aB ?_))
     refine⟨rfl,Wk.mk [(4,some 4)] rfl rfl rfl ?_ ?_⟩
     ·repeat (first|exact trivial|refine⟨⟨_,rfl,by first|exact LeA.c (zBq rfl rfl rfl rfl)|exact leT⟩,?_⟩)
     ·exact⟨hSm,trivial⟩
    ·refine ADt.split 1 ?_
     refine qr5 zC9 ?_;refine aB ?_;refine ADt.defer rfl rfl rfl rfl (Wk.mk [(4,some 4)] rfl rfl rfl ?_ ?_)
     ·exact zC
     ·exact⟨hSm,trivial⟩
    ·refine DWp.seq (DWp.die rfl (fun _ h=>by cases h.1) ?_)
     refine ADie.split 4 ?_;refine xE4 ?_;refine aB ?_;refine ADie.weak (S':=zD 20 [(4,.c (.pt 4 1 0 0)),(14,.c (.pt 14 6 0 0)),(15,.c (zAX l))] [(4,bxE),(14,tbB p 30),(30,chI [])] [4,14,30]) (Wk.mk [(4,some 4),(14,some 14),(30,none)] rfl rfl rfl ?_ ?_) ?_
     ·exact zC
     ·exact⟨hSm,HeapOk.box rfl rfl ⟨LeC.refl _ rfl,LeC.refl _ rfl,LeC.refl _ rfl,LeC.refl _ rfl,LeC.refl _ rfl,LeC.nil _ rfl,trivial⟩ rfl,HeapOk.nil rfl rfl,trivial⟩
     refine ADie.split 3 ?_;refine zBT [14] [30] [31] [tbB p 800] [chI []] [tbB p 900] [chI []] [tbB p 31] [chI []] rfl rfl FnV.func rfl Try.func54 rfl xC (zCd 0 rfl rfl trivial) (⟨⟨_,rfl,rfl,fun _ _ _ _=>⟨rfl,rfl⟩⟩,trivial⟩) rfl (by exact⟨.c (.b (.pt 14 0 6 0 0 rfl)),.c (.b (.imm _ rfl)),trivial⟩) (.c (.imm _ rfl)) (zCD 0 rfl trivial) (⟨⟨_,rfl,fun _ _ _ _=>.imm _ rfl⟩,trivial⟩) (hgo) ?_;refine xE2 ?_;refine aB ?_;refine ADie.call [] [] [] [] [] [] [] [] [] rfl FnV.func rfl Try.func53 rfl xC (trivial) (trivial) rfl (by exact⟨.c (.b (.imm _ rfl)),trivial⟩) (trivial) (trivial) (zC2) ?_
     refine⟨rfl,Wk.mk [(4,some 4)] rfl rfl rfl ?_ ?_⟩
     ·exact zC
     ·exact⟨hSm,trivial⟩
    ·intro b2 a a' w u ds e S hY hV hR hi ⟨h1,h2⟩
     subst h1;exact zLO hY hV (h2 b2 a w hR) hi
theorem zDd{p:Pb}{H:List Hg}(s:List Int)(hp:Sm p)(hC:p.C.length≤2)(hH:HgSm H):Sm (anP p H s):=by
 have h1:(anP p H s).C.length=p.C.length+H.length:=by show(p.C++anC H s H.length).length=_;rw[List.length_append,zE8]
 have h2:(anP p H s).O.length=p.O.length+H.length:=by show(p.O++anO H H.length).length=_;rw[List.length_append,zGV]
 have h3:=hH.1
 refine⟨hp.R,hp.Rr,by omega,fun l hl=> ?_,hp.F,hp.Ff,by rw[h1,h2,hp.O],hp.T⟩
 rcases List.mem_append.1 hl with hl|hl
 ·exact hp.Cc l hl
 ·unfold anC at hl
  obtain⟨k,hk,rfl⟩:=List.mem_map.1 hl
  obtain⟨⟨d,q1⟩,q2,q3⟩:=hH.2 _ (zAJ (L:=H) (k:=k) (z:=hgZ) (List.mem_range.1 hk))
  unfold zBY;by_cases c:(k:Int)∈s
  ·rw[if_pos c];exact⟨by omega,q3⟩
  ·rw[if_neg c]
   exact⟨by simp,fun b hb=>by rw[List.mem_singleton.1 hb];exact⟨d,q1⟩⟩
theorem zEZ{p:Pb}{H:List Hg}{s:List Int}(hp:Sm p)(hC:p.C.length≤2)(hH:HgSm H)(hs:zAP H.length s=true):zAe p H s=(anP p H s,0):=by
 unfold zAe;rw[if_pos hp.chk,if_pos hs,if_pos (zDd s hp hC hH).chk]
def nmL(f:Nat→Int)(k:Nat):List Int:=(List.range k).map f
theorem zNo(f:Nat→Int)(k:Nat):(nmL f k).length=k:=by unfold nmL;rw[List.length_map,List.length_range]
theorem zRB(f:Nat→Int){k i:Nat}(h:i<k):fI (nmL f k) i=f i:=by
 show(nmL f k).getD i 0=_
 unfold nmL;rw[List.getD_eq_getElem?_getD,List.getElem?_map,List.getElem?_range h]
 rfl
def Sol(p:Pb):Prop:=∃f:Nat→Int,∀k,k<p.C.length→zC4 p f k=true
theorem zJS{p:Pb}{f g:Nat→Int}{k:Nat}(h:∀j,j≤k→f j=g j)(hs:zC4 p f k=true):zC4 p g k=true:=by
 rw[stepOk_iff]at hs⊢;rw[←h k (Nat.le_refl k),←zHe fun j hj=>h j xD];exact hs
theorem zHJ{p:Pb}(sp:Sm p):((zAy p).2=0∧Sol p)∨((zAy p).2=60∧¬Sol p):=by
 have hT:stT p.C.length≤20000:=by
  have:=sp.C;have:p.C.length=0∨p.C.length=1∨p.C.length=2∨p.C.length=3∨p.C.length=4∨p.C.length=5:=by omega
  rcases this with h|h|h|h|h|h<;>rw[h]<;>decide
 obtain⟨hS,-,-⟩:=zI2 (fun l h=>(sp.Cc l h).1) p.C.length [] 0 (by simp) (fun k hk=>absurd hk (Nat.not_lt_zero _)) (Int.le_refl _) xD
 unfold zAy;rw[if_pos sp.chk];generalize zAE p p.C.length [] 0=o at *
 rcases hS with ⟨k1,e0,-,k3,k4,-⟩|⟨k1,-,k3⟩
 ·exact .inl ⟨k1,fI e0,fun k hk=>k4 k (by rw[List.nil_append,k3];exact hk)⟩
 ·refine .inr ⟨k1,fun ⟨f,hf⟩=>k3 (nmL f p.C.length) (zNo _ _) fun k hk=> ?_⟩
  rw[List.nil_append,zNo]at hk;exact zJS (fun j hj=>(zRB f xD).symm) (hf k hk)
theorem zSJ{p:Pb}(sp:Sm p):(zAy p).2=0↔Sol p:=by
 rcases zHJ sp with ⟨h1,h2⟩|⟨h1,h2⟩
 ·exact⟨fun _=>h2,fun _=>h1⟩
 ·exact⟨fun h=>(by rw[h1]at h;cases h),fun h=>absurd h h2⟩
theorem zJ8{p:Pb}(sp:Sm p):zCE p=0↔(zAy p).2=60:=by
 unfold zCE
 rcases zHJ sp with ⟨h1,-⟩|⟨h1,-⟩<;>rw[h1]<;>decide
theorem zJr{n:Nat}{ns:List Int}(h:zAP n ns=true){i:Nat}:∀{j:Nat},i<j→j<ns.length→fI ns i<fI ns j
 |0,h0,_=>absurd h0 (Nat.not_lt_zero _)
 | j+1,h1,h2=>by
   have h3:=(nmOk_iff.1 h (j+1) h2).2.2 (Nat.succ_pos _);rw[Nat.add_sub_cancel]at h3;by_cases e:i=j
   ·subst e;exact h3
   ·exact Int.lt_trans (zJr h (show i<j by omega) xD) h3
theorem zL7{rec:List Int→Nat→List (List Int)}{l s:List Int}{y:Nat}:∀{m x:Nat},x≤y→y<x+m→s∈rec (l++ [(y:Int)]) (y+1)→s∈zB6 rec l m x
 |0,x,h1,h2,_=>by omega
 | m+1,x,h1,h2,h=>by
   show s∈_++zB6 rec l m (x+1);by_cases e:x=y
   ·subst e;exact List.mem_append.2 (.inl h)
   ·exact List.mem_append.2 (.inr (zL7 xD xD h))
theorem zL9{n:Nat}:∀(r:Nat) (l t:List Int) (x:Nat),zAP n (l++t)=true→t.length=r→(∀k,l.length≤k→k<(l++t).length→(x:Int)≤fI (l++t) k)→l++t∈zA9 n r l x
 | 0,l,t,x,_,ht,_=>by
   obtain rfl:=List.eq_nil_of_length_eq_zero ht
   simp[zA9]
 |r+1,l,[],x,_,ht,_=>by cases ht
 | r+1,l,v::t,x,h,ht,hx=>by
   have hlt:l.length<(l++v::t).length:=by simp
   have e:=zMo l t v;have h1:=hx l.length (Nat.le_refl _) hlt;have h2:=(nmOk_iff.1 h l.length hlt).2.1;rw[e]at h1 h2
   obtain⟨y,rfl⟩:=Int.eq_ofNat_of_zero_le (show 0≤v by omega)
   show _∈zB6 (zA9 n r) l (n-x) x;refine zL7 (y:=y) xD xD ?_;have ih:=zL9 r (l++ [(y:Int)]) t (y+1) (by rw[List.append_assoc];exact h) (by simpa using ht) fun k hk1 hk2=>by
    rw[List.length_append,List.length_singleton]at hk1;rw[List.append_assoc]at hk2⊢;have h4:=zJr h (show l.length<k by omega) hk2;rw[e]at h4
    show((y+1:Nat):Int)≤fI (l++(y:Int)::t) k
    omega
   rw[List.append_assoc]at ih;exact ih
theorem zSB{n:Nat}{s:List Int}(h:zAP n s=true):s∈zCQ n s.length:=
 zL9 s.length [] s 0 h rfl fun k _ hk=>(nmOk_iff.1 h k hk).1
theorem to_in{n:Nat}{s:List Int}:∀{k:Nat},s∈zBz n k↔∃i,i<k∧s∈zCQ n i
 |0=>⟨fun h=>by(cases h),fun ⟨i,h,_⟩=>absurd h (Nat.not_lt_zero _)⟩
 | k+1=>by
   show s∈zBz n k++zCQ n k↔_;rw[List.mem_append,to_in]
   constructor
   ·rintro(⟨i,h1,h2⟩|h)
    ·exact⟨i,by omega,h2⟩
    ·exact⟨k,by omega,h⟩
   ·rintro⟨i,h1,h2⟩
    by_cases e:i=k
    ·subst e;exact .inr h2
    ·exact .inl ⟨i,by omega,h2⟩
theorem zMq{l:List Int}{k i:Nat}:fI (l.eraseIdx k) i=if i<k then fI l i else fI l (i+1):=by
 show(l.eraseIdx k).getD i 0=if i<k then l.getD i 0 else l.getD (i+1) 0
 rw[List.getD_eq_getElem?_getD,List.getElem?_eraseIdx]
 split<;>rw[List.getD_eq_getElem?_getD]
theorem zJq{n k:Nat}{s:List Int}(h:zAP n s=true)(hk:k<s.length):zAP n (s.eraseIdx k)=true:=nmOk_iff.2 fun i hi=>by
 rw[List.length_eraseIdx,if_pos hk]at hi;have hb:∀j,j<s.length→0≤fI s j∧fI s j<n:=fun j hj=>⟨(nmOk_iff.1 h j hj).1,(nmOk_iff.1 h j hj).2.1⟩
 have hm:∀a b,a<b→b<s.length→fI s a<fI s b:=fun a b h1 h2=>zJr h h1 h2
 rw[zMq,zMq];have e1:=hb i xD;have e2:=hb (i+1) xD
 refine⟨by split<;>omega,by split<;>omega,fun h0=> ?_⟩
 by_cases c:i<k
 ·rw[if_pos c,if_pos xD]
  exact hm _ _ xD xD
 ·rw[if_neg c]
  by_cases d:i-1<k
  ·rw[if_pos d]
   exact hm _ _ xD xD
  ·rw[if_neg d]
   exact hm _ _ xD xD
def zFs(p:Pb)(H:List Hg)(s:List Int):Bool:=decide ((zAy (anP p H s)).2=0)
theorem zSI{p:Pb}{H:List Hg}{s:List Int}(hp:Sm p)(hC:p.C.length≤2)(hH:HgSm H)(h:zFs p H s=false):(zAy (anP p H s)).2=60:=by
 rcases zHJ (zDd s hp hC hH)with ⟨h1,-⟩|⟨h1,-⟩
 ·unfold zFs at h
  rw[h1]at h
  cases h
 ·exact h1
theorem zMt{f g:List Int→Bool}:∀{L:List (List Int)},(∀s∈L,f s=g s)→L.find? f=L.find? g
 | [],_=>rfl
 | s::L,h=>by
   rw[List.find?_cons,List.find?_cons,h s (by simp),zMt (L:=L) fun t ht=>h t (by simp[ht])]
theorem zPK(n:Nat):zAP n (zCI n)=true:=nmOk_iff.2 fun k hk=>by
 rw[zIk]at hk;rw[zIS,show zCl n k=(k:Int)from if_pos hk]
 refine⟨by omega,by omega,fun h0=> ?_⟩
 rw[zIS,show zCl n (k-1)=((k-1:Nat):Int)from if_pos xD]
 omega
abbrev zDi(p:Pb)(H:List Hg):Option (List Int):=(zBz H.length (H.length+1)).find? (zFs p H)
theorem zRo{p:Pb}{H:List Hg}(hp:Sm p)(hC:p.C.length≤2)(hH:HgSm H):
 (∃s,zDi p H=some s∧zAP H.length s=true∧(zAy (anP p H s)).2=0∧zCp p H=(zCA p (zAy (anP p H s)).1 s,0))∨(zDi p H=none∧zCp p H=(plZ,60)):=by
 have hn:zAP H.length []=true:=nmOk_iff.2 fun k hk=>absurd hk (Nat.not_lt_zero _)
 have hh:=hH.1;have e:(zBz H.length (H.length+1)).find? (zD2 p H)=zDi p H:=zMt fun s hs=>by
  have hm:=(zDL hs).1;unfold zD2 zFs;rw[zEZ hp hC hH hm]
  rcases zHJ (zDd s hp hC hH)with ⟨h1,-⟩|⟨h1,-⟩<;>(dsimp only;rw[h1];rfl)
 have em:zCp p H=zJw p H (zDi p H):=by
  unfold zCp;rw[if_pos hp.chk,if_neg xD,zEZ hp hC hH hn,zEZ hp hC hH (zPK _),e]
  rfl
 cases hf:zDi p H with
 |none=>rw[hf]at em;exact .inr ⟨rfl,em⟩
 | some s=>
   rw[hf]at em;have hm:=(zDL (List.mem_of_find?_eq_some hf)).1;have hs:=List.find?_some hf;have h0:(zAy (anP p H s)).2=0:=of_decide_eq_true hs;refine .inl ⟨s,rfl,hm,h0,em.trans ?_⟩;show zGh p H s=_;unfold zGh;rw[zEZ hp hC hH hm,if_pos h0]
theorem zOh{q:Pb}(hq:Sm q)(h:(zAy q).2=0):(zAy q).1.length=q.C.length∧GoodC q (zAy q).1:=by
 refine⟨zOg h,?_⟩
 rcases zSK hq.fit hq.chk (fun l h=>(hq.Cc l h).1) hq.C with ⟨-,N,-,h2,h3,-⟩|⟨h1,-⟩
 ·rw[h2];exact h3
 ·rw[h]at h1;cases h1
theorem zOL{m:Nat}{x:Pl}{c:List Int}(ha:∀i,i<x.rp.length→fI x.an i=fI c (m+(fI x.rp i).toNat)):∀k,k≤x.rp.length→∀j,(∃i,i<k∧j=m+(fI x.rp i).toNat)→wrF m x k j=fI c j
 |0,_,_,⟨_,h,_⟩=>absurd h (Nat.not_lt_zero _)
 | k+1,hk,j,⟨i,hi,hj⟩=>by
   show(if j=m+(fI x.rp k).toNat then fI x.an k else wrF m x k j)=_
   by_cases h:j=m+(fI x.rp k).toNat
   ·rw[if_pos h,ha k hk,←h]
   ·rw[if_neg h]
    refine zOL ha k xD j ⟨i,?_,hj⟩;by_cases e:i=k
    ·subst e;exact absurd hj h
    ·omega
theorem zOK{m:Nat}{x:Pl}:∀k j,(∀i,i<k→j≠m+(fI x.rp i).toNat)→wrF m x k j=fI x.ch j
 |0,_,_=>rfl
 | k+1,j,h=>by
   show(if j=m+(fI x.rp k).toNat then fI x.an k else wrF m x k j)=_
   rw[if_neg (h k (Nat.lt_succ_self k))];exact zOK k j fun i hi=>h i xD
theorem zQG{s:List Int}{f:Int→Int}{i:Nat}(h:i<s.length):fI (s.map f) i=f (fI s i):=by
 show(s.map f).getD i 0=f (s.getD i 0)
 rw[List.getD_eq_getElem?_getD,List.getD_eq_getElem?_getD,List.getElem?_map,List.getElem?_eq_getElem h]
 rfl
theorem zQH{l:List Int}{m j:Nat}(h:j<m):fI (l.take m) j=fI l j:=by
 show(l.take m).getD j 0=l.getD j 0
 rw[List.getD_eq_getElem?_getD,List.getD_eq_getElem?_getD,List.getElem?_take_of_lt h]
theorem zPM{p:Pb}{H:List Hg}{s:List Int}{i:Nat}(hi:i<H.length):(anP p H s).C.getD (p.C.length+i) []=zBY H s i:=by
 show(p.C++anC H s H.length).getD _ []=_
 rw[List.getD_eq_getElem?_getD,List.getElem?_append_right xD,Nat.add_sub_cancel_left];unfold anC;rw[List.getElem?_map,List.getElem?_range hi]
 rfl
theorem zTK{p:Pb}{H:List Hg}{s:List Int}{c:List Int}(hs:zAP H.length s=true)(hcl:c.length=p.C.length+H.length)(hc:GoodC (anP p H s) c):∀j,j<p.C.length+H.length→wrF p.C.length (zCA p c s) s.length j=fI c j:=fun j hj=>by
 by_cases h:∃i,i<s.length∧j=p.C.length+(fI s i).toNat
 ·exact zOL (x:=zCA p c s) (c:=c) (fun i hi=>zQG hi) s.length (Nat.le_refl _) j h
 ·have h':∀i,i<s.length→j≠p.C.length+(fI s i).toNat:=fun i hi e=>h ⟨i,hi,e⟩
  rw[zOK (x:=zCA p c s) s.length j h'];show fI (c.take p.C.length) j=fI c j;by_cases hj':j<p.C.length
  ·exact zQH hj'
  ·obtain⟨i,rfl⟩:∃i,j=p.C.length+i:=⟨j-p.C.length,by omega⟩
   have h1:fI (c.take p.C.length) (p.C.length+i)=0:=by
    show(c.take p.C.length).getD _ 0=0
    rw[List.getD_eq_getElem?_getD,List.getElem?_eq_none (by rw[List.length_take];omega)]
    rfl
   have h2:=(step_iff.1 (hc (p.C.length+i) xD)).1;rw[zPM xD]at h2;have h3:¬(i:Int)∈s:=fun hm=>by
    obtain⟨q,h4,h5⟩:=mem_fI.1 hm
    exact h' q h4 (by rw[h5];rfl)
   unfold zBY at h2;rw[if_neg h3]at h2;have h4:([(H.getD i hgZ).now]:List Bp).length=1:=rfl;rw[h4]at h2;rw[h1]
   omega
theorem zRX{p:Pb}{H:List Hg}(hp:Sm p)(hC:p.C.length≤2)(hH:HgSm H){s:List Int}(hs:zAP H.length s=true)(h0:(zAy (anP p H s)).2=0):zDm p H (zCA p (zAy (anP p H s)).1 s)=true:=by
 have hq:=zDd s hp hC hH;have hl:(anP p H s).C.length=p.C.length+H.length:=by show(p.C++anC H s H.length).length=_;rw[List.length_append,zE8]
 obtain⟨h1,h2⟩:=zOh hq h0
 have hw:=zTK hs (h1.trans hl) h2;generalize (zAy (anP p H s)).1=c at *;unfold zDm;have e1:(zCA p c s).rp=s:=rfl;rw[e1,zEZ hp hC hH hs,if_pos ⟨⟨rfl,by show(c.take p.C.length).length=_;rw[List.length_take];omega⟩,by show(s.map _).length=_;rw[List.length_map]⟩]
 refine holdsV_iff.2 ⟨⟨hq.chk,hl.symm⟩,fun k hk=> ?_⟩;refine zJS (fun j hj=>(hw j xD).symm) (h2 k xD)
theorem zR9{r:Rd}{a b:Bp}{x y:Bg}(h:rcB r a b x y=true):zD3 r a b x y (rcC r a b x y)=true:=by
 unfold rcB at h;rw[Bool.and_eq_true,Bool.and_eq_true]at h
 obtain⟨h1,h2,h3⟩:=h
 unfold zD3 isB rcC;rw[h1,h2,Bool.true_and,Bool.true_and];unfold zDZ at h3⊢;by_cases hok:zCj (zAQ r a) (zAQ r b)
 ·rw[if_pos hok]at h3⊢
  unfold zFb at h3⊢
  cases hf:(alL (zAQ r a).W x y).find? (zFg (zAQ r a) (zAQ r b) x y)with
  |none=>rw[hf]at h3;cases h3
  | some d=>
    show(decide (d∈alL (zAQ r a).W x y) && decide (xsV (zAQ r a) (zAQ r b) x y d≤0))=true
    rw[decide_eq_true (List.mem_of_find?_eq_some hf),Bool.true_and]
    exact(show zFg (zAQ r a) (zAQ r b) x y d=true from List.find?_some hf)
 ·rw[if_neg hok]at h3
  cases h3
theorem zL0{a b:Bp}{x y:Bg}:∀{L:List Rd} {k:Nat},(zB4 a b x y L k).2.2=true→∃m,m<L.length∧zB4 a b x y L k=(k+m,rcC (L.getD m rdZ) a b x y,true)∧rcB (L.getD m rdZ) a b x y=true
 | [],k,h=>by cases h
 | r ::L,k,h=>by
   cases hr:rcB r a b x y with
   |true=>exact⟨0,by simp,by unfold zB4;rw[if_pos hr];rfl,hr⟩
   | false=>
     have e:zB4 a b x y (r::L) k=zB4 a b x y L (k+1):=by rw[zB4,if_neg (by rw[hr];simp)]
     rw[e]at h
     obtain⟨m,h1,h2,h3⟩:=zL0 h
     exact⟨m+1,by simpa using h1,by rw[e,h2,Nat.add_assoc,Nat.add_comm 1];rfl,h3⟩
theorem zSU(p:Pb)(ch:List Int)(c:Nat):(zA7 p ch c).nm=ch.length∧(zA7 p ch c).ch=c:=by
 unfold zA7
 cases (List.range (p.F.length+ch.length)).find? fun k=>(zBt p ch c k).2.2<;>exact⟨rfl,rfl⟩
theorem zOj{p:Pb}{ch:List Int}{c:Nat}(h:(zA7 p ch c).dp=true):zA7 p ch c=zBW ch.length c∧∀k,k<p.F.length+ch.length→(zBt p ch c k).2.2=false:=by
 unfold zA7 at h⊢
 cases hf:(List.range (p.F.length+ch.length)).find? fun k=>(zBt p ch c k).2.2 with
 |some k=>rw[hf]at h;cases h
 | none=>
   refine⟨rfl,fun k hk=> ?_⟩
   rw[List.find?_eq_none]at hf
   simpa using hf k (List.mem_range.2 hk)
theorem zST{p:Pb}{ch:List Int}{c:Nat}(h:(zA7 p ch c).dp=false):zDk p ch c (zA7 p ch c)=true:=by
 unfold zA7 at h⊢
 cases hf:(List.range (p.F.length+ch.length)).find? fun k=>(zBt p ch c k).2.2 with
 |none=>rw[hf]at h;cases h
 | some k=>
   have hk:=List.mem_range.1 (List.mem_of_find?_eq_some hf);have ht:(zBt p ch c k).2.2=true:=List.find?_some (p:=fun k=>(zBt p ch c k).2.2) hf
   obtain⟨m,h1,h2,h3⟩:=zL0 (show(zB4 _ _ _ _ (rdL p.R) 0).2.2=true from ht)
   have h2':zBt p ch c k=(0+m,rcC ((rdL p.R).getD m rdZ) _ _ _ _,true):=h2;show zDk p ch c ⟨ch.length,c,obN p k,(zBt p ch c k).1,false,(zBt p ch c k).2.1⟩=true;rw[h2'];unfold zDk;rw[Bool.and_eq_true,decide_eq_true_eq]
   refine⟨⟨?_,?_,?_,?_⟩,?_⟩
   ·show obN p k<ch.length
    unfold obN
    split<;>omega
   ·show -(p.F.length:Int)≤obN p k
    unfold obN
    split<;>omega
   ·show(0:Int)≤((0+m:Nat):Int)
    omega
   ·show((0+m:Nat):Int)<(rdL p.R).length
    omega
   ·show zD3 ((rdL p.R).getD (((0+m:Nat):Int)).toNat rdZ) _ _ _ _ _=true
    rw[show(((0+m:Nat):Int)).toNat=m by omega];exact zR9 h3
def zDN(p:Pb)(m:Nat)(ch:List Int)(c k:Nat):List Stp:=(List.range k).flatMap fun i=>zDM p m ch (c+i)
theorem zTz{p:Pb}{m:Nat}{ch:List Int}{c k:Nat}:zDN p m ch c (k+1)=zDM p m ch c++zDN p m ch (c+1) k:=by
 unfold zDN;rw[List.range_succ_eq_map,List.flatMap_cons,List.flatMap_map]
 congr 2
 funext i
 show zDM p m ch (c+(i+1))=_;rw[Nat.add_comm i 1,←Nat.add_assoc]
theorem zTA{p:Pb}{m:Nat}{ch:List Int}:zBh p (m+1) ch=zDN p m ch 0 (p.C.getD ch.length []).length:=by
 unfold zBh zDN zDM
 simp only[Nat.zero_add]
theorem zMH(p:Pb):∀(m:Nat) (ch:List Int) (rest:List Stp),zDh p m ch→zBs p m ch (zBh p m ch++rest)=some rest
 |0,_,_,h=>h.elim
 | m + 1,ch,rest,h=>by
   have key:∀k c,c+k=(p.C.getD ch.length []).length→zCL p (zBs p m) ch k c (zDN p m ch c k++rest)=some rest:=fun k=>by
    induction k with
    |zero=>intro c _;rfl
    | succ k ih=>
      intro c hc;have hs:zFu p (zBs p m) ch c (zDN p m ch c (k+1)++rest)=some (zDN p m ch (c+1) k++rest):=by
       rw[zTz];unfold zDM;rw[List.cons_append,List.cons_append]
       show(if _ then _ else _)=_
       rw[if_pos (zSU p ch c)]
       cases hd:(zA7 p ch c).dp with
       | true=>
         rw[if_pos rfl,if_pos (zOj hd).1,if_pos rfl,List.append_assoc];exact zMH p m _ _ (h c xD hd)
       | false=>
         rw[if_neg (by simp),if_pos (zST hd),if_neg (by simp),List.nil_append]
      show(zFu p (zBs p m) ch c (zDN p m ch c (k+1)++rest)).bind (zCL p (zBs p m) ch k (c+1))=_
      rw[hs];exact ih (c+1) xD
   rw[zTA];exact key _ 0 (Nat.zero_add _)
theorem zOG{p:Pb}(hl:∀l∈p.C,l.length≤4):∀(m:Nat) (ch:List Int),((zBh p m ch).length:Int)≤stT m
 |0,_=>Int.le_refl _
 | m + 1,ch=>by
   have hT:=zJQ m;have key:∀k,((zBJ p m ch k).length:Int)≤k*(1+stT m):=fun k=>by
    induction k with
    |zero=>simp[zBJ]
    | succ k ih=>
      rw[zKb,List.length_append];have h1:((zDM p m ch k).length:Int)≤1+stT m:=by
       unfold zDM;have:=zOG hl m (ch++ [(k:Int)]);rw[List.length_cons]
       split
       ·omega
       ·simp only[List.length_nil];omega
      rw[Int.natCast_add,Int.natCast_add,Int.add_mul]
      simp only[Int.natCast_one,Int.one_mul]
      omega
   have h4:(p.C.getD ch.length []).length≤4:=by
    by_cases h:ch.length<p.C.length
    ·exact hl _ (zAJ h)
    ·rw[List.getD_eq_getElem?_getD,List.getElem?_eq_none xD];exact Nat.zero_le _
   have h5:((p.C.getD ch.length []).length:Int)*(1+stT m)≤4*(1+stT m):=Int.mul_le_mul_of_nonneg_right xD xD;exact Int.le_trans (key _) h5
theorem zMd{p:Pb}:∀(m:Nat) (ch:List Int),ch.length+m=p.C.length→GoodC p ch→(∀e,e.length=m→¬GoodC p (ch++e))→zDh p m ch
 |0,ch,_,hg,hn=>hn [] rfl (by rw[List.append_nil];exact hg)
 | m +1,ch,hm,hg,hn=>fun c hc hd=>by
   obtain⟨-,h0⟩:=zOj hd
   refine zMd m (ch++ [(c:Int)]) (by simp;omega) (fun k hk=> ?_) (fun e he h=>hn ((c:Int)::e) (by simp[he]) (by rw[List.append_assoc]at h;exact h))
   rw[List.length_append,List.length_singleton]at hk;by_cases e:k=ch.length
   ·subst e
    rw[step_iff,zFe]
    refine⟨⟨by omega,by omega⟩,fun j hj=> ?_,fun j hj=> ?_⟩
    ·rw[zFe,show((c:Int)).toNat=c from rfl]
     have:=h0 j xD;unfold zBt obN at this;rw[if_pos hj,(obB_f (ch:=ch)).1,(obB_f (ch:=ch)).2]at this;exact this
    ·rw[zFe,show((c:Int)).toNat=c from rfl,zEF ch c j hj]
     have:=h0 (p.F.length+j) xD;unfold zBt obN at this;rw[if_neg xD,show((p.F.length+j:Nat):Int)-p.F.length=(j:Int) by omega]at this;unfold obB obG at this;rw[if_neg xD,if_neg xD,show((j:Int)).toNat=j from rfl]at this;exact this
   ·exact zJS (fun j hj=>(zEF ch c j xD).symm) (hg k xD)
theorem zRH{p:Pb}(h:¬Sol p):∀e,e.length=p.C.length→¬GoodC p ([]++e):=fun e he hg=>h ⟨fI e,fun k hk=>hg k (by rw[List.nil_append,he];exact hk)⟩
theorem zJg{p:Pb}(sp:Sm p)(h:zCE p=0):zDh p p.C.length []∧(zBh p p.C.length []).length≤1000000:=by
 refine⟨zMd _ [] (Nat.zero_add _) (fun k hk=>absurd hk (Nat.not_lt_zero _)) (zRH fun hs=> ?_),?_⟩
 ·have:=(zSJ sp).2 hs
  rw[(zJ8 sp).1 h]at this
  cases this
 ·have h1:=zOG (fun l hl=>(sp.Cc l hl).1) p.C.length []
  have h2:stT p.C.length≤20000:=by
   have:=sp.C;have:p.C.length=0∨p.C.length=1∨p.C.length=2∨p.C.length=3∨p.C.length=4∨p.C.length=5:=by omega
   rcases this with h|h|h|h|h|h<;>rw[h]<;>decide
  omega
theorem zSe{p:Pb}(sp:Sm p)(h:(zB1 p).2=0):zFW p (zB1 p).1=0:=by
 unfold zB1 at h⊢;rw[if_pos sp.chk]at h⊢;by_cases hu:zCE p=0
 ·rw[if_pos hu]
  unfold zFW;rw[if_pos sp.chk];have:=zMH p p.C.length [] [] (zJg sp hu).1;rw[List.append_nil]at this;rw[if_pos this]
 ·rw[if_neg hu]at h
  exact absurd h hu
end Go.Proofs.Ytbffmfeldkjkcaa
end
