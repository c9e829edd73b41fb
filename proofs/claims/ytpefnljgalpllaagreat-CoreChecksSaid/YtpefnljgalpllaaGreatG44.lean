/- Parts of the proof: AIfc, A29p, A29q, ADfr, A29r, A29s, A29t, A29u, A29v. -/
import Derived.Test.YtpefnljgalpllaaGreatG43
import Derived.RecoverIn
set_option linter.unusedSimpArgs false
set_option linter.unusedVariables false
set_option maxHeartbeats 0
set_option maxRecDepth 100000
section
namespace Go.AV
open Go Go.RowKit Go.Flow
variable{P:Program}{ops:Array Oper}{rest:List Oper}{acc:List (List Nat×List Nat)}{S:St}{Q:List (List Nat×List Nat)→St→Prop}{dst:Option Tmp}{ty:TypeId}{pos:String}{after:Array Edge}{guard:Option (Nat×Bool)}
theorem zKv{t:TypeId}{T:TypeDesc}{x:Operand}(hu:P.underlying t=some T)(hn:∀X,T≠ .interface X)(hw:S.wants ops {dst,op:=.makeInterface t x,type:=ty,pos,after,guard}=some true)(hd:dOk S.n dst=true)(hx:S.opd x=some (.ag []))
 (hk:AList P ops rest (([],[])::acc) (S.eff dst ⟨.c (.p (.iface t (.agg #[]))),[],[]⟩) Q):AList P ops ({dst,op:=.makeInterface t x,type:=ty,pos,after,guard}::rest) acc S Q:=
 AList.val [] _ hw hd (fun S1 h1 _ b0 σ a w R=>by
  obtain⟨vs,e1,e2⟩:=zX R ((h1 x (by simp[Op.operands])).trans hx)
  obtain rfl:vs= []:=by
   cases vs with
   |nil=>rfl
   |cons v l=>exact e2.elim
  refine⟨.iface t (.agg #[]),?_,rfl,rfl⟩
  have:(Instr.makeInterface t (a.eval x)).run P w=.ok (.iface t (.agg #[])) w:=by
   rw[e1];unfold Instr.makeInterface;rw[Sem.run_bind,run_underlying hu]
   cases T<;>first|rfl|exact absurd rfl (hn _)
  simp only[execOp]
  rw[Sem.run_bind,this]
  rfl) hk
theorem ADie.weak{l:List Oper}{S':St}{R:Exit→St→Prop}(hw:Wk S S')(h:ADie P ops l S' R):ADie P ops l S R:=⟨fun rd b0 a w K hR hK=>h.get rd b0 a w K (hw b0 a w hR) hK⟩
def zPx{β:Type}(P:Program)(rs:List ResultVar)(ch:List PanicEntry)(V:Option β)(r:β→AV)(hs' nw hD nD:List AB)(m:Nat):Exit→St→Prop:=
 match V with
 |some x=>zES P rs (GEq (r x) hs' nw) m
 |none=>zIg ch hD nD m
theorem zQ7{β:Type}{V:Option β}{r:β→AV}{ch:List PanicEntry}{f:FuncId}{fn:Func}{c:Code}{rs:List ResultVar}{args:List V1}{hs mv hs' nw hD nD:List AB}{n:Nat}(hf:P.funcs[f]?=some fn)(hb:fn.body=some c)(hr:fn.results=rs.toArray)(hn:fn.ntmps=n)(hl:(Nat.ble args.length n && Nat.ble mv.length 100)=true)
 (h:AWp P c (zPx P rs ch V r hs' nw hD nD hs.length) (zBT n hs.length args (zAW mv hs))):(∀x,V=some x→zEP P f args hs mv (r x) hs' nw)∧(V=none→zEO P ch f args hs mv hD nD):=
 ⟨fun x e=>by subst e;exact zFK hf hb hr hn hl h,fun e=>by subst e;exact zIX hf hb hn hl h⟩
end Go.AV
end
section
namespace Go.Proofs.YtpefnljgalpllaaGreat
open Go.RowKit Go.Flow Go.AV Go.Plain
def zCe(p:Pb)(ch:List Int)(c:Nat)(s:Stp):Bool:=
 decide (s.wi<ch.length∧-(p.F.length:Int)≤s.wi∧0≤s.rd∧s.rd<(rdL p.R).length) && zEq ((rdL p.R).getD s.rd.toNat rdZ) ((p.C.getD ch.length []).getD c bpZ) (obB p ch s.wi) (p.O.getD ch.length bgZ) (obG p s.wi) s.cl
def zF9(p:Pb)(rec:List Int→List Stp→Option (List Stp))(ch:List Int)(c:Nat):List Stp→Option (List Stp)
 | []=>none
 |s::l=>if s.nm=ch.length∧s.ch=c then (if s.dp=true then (if s=zAP ch.length c then rec (ch++ [(c:Int)]) l else none)else (if zCe p ch c s=true then some l else none))else none
def zCz(p:Pb)(rec:List Int→List Stp→Option (List Stp))(ch:List Int):Nat→Nat→List Stp→Option (List Stp)
 |0,_,l=>some l
 |k+1,c,l=>(zF9 p rec ch c l).bind (zCz p rec ch k (c+1))
def zBo(p:Pb):Nat→List Int→List Stp→Option (List Stp)
 |0,_,_=>none
 |m+1,ch,l=>zCz p (zBo p m) ch (p.C.getD ch.length []).length 0 l
def zDu(p:Pb)(l:List Stp):Int:=if zAA p=0 then (if zBo p p.C.length [] l=some []then 0 else 62)else zAA p
abbrev zFl:List PanicEntry:= [{v:=.iface 88 (.agg #[]),recovered:=false}]
theorem zEE:ACalls Tryz.prog 38 [.c (bC true)] (.tu []):=by
 refine zH Tryz.func38 rfl rfl Tryz.ntmps38 rfl ?_
 repeat (first
  |refine vB [0] ?_
  | (refine rG 1 ?_
     refine vA ?_;refine zKv Tryz.underlying88 (fun _ h=>by cases h) rfl rfl rfl ?_
     fail "panic"
     refine aB ?_))
 refine⟨zC 6 [] [] [],[],Wk.mk [] rfl rfl rfl trivial trivial,rfl,rfl,ARets.no⟩
theorem zC3:zEO Tryz.prog zFl 38 [.c (bC false)] [] [] [] []:=by
 refine zIX Tryz.func38 rfl Tryz.ntmps38 rfl ?_;refine vB [0] ?_;refine AWp.die ?_;refine ADie.split 2 ?_;refine vA ?_;refine zKv Tryz.underlying88 (fun _ h=>by cases h) rfl rfl rfl ?_;refine aB ?_;refine ADie.panic rfl rfl (fun _=>rfl) ⟨rfl,mkL 6 0 [] [] [],[],rfl,zT [] rfl rfl rfl rfl rfl trivial trivial,rfl,rfl⟩
theorem zOa(a b:Stp)(w:World):(Go.binOp .eql 60 (.agg #[.int .i64 a.nm,.int .i64 a.ch,.int .i64 a.wi,.int .i64 a.rd,.bool a.dp,.int .i64 a.cl.dx,.int .i64 a.cl.dy,.int .i64 a.cl.col]) (.agg #[.int .i64 b.nm,.int .i64 b.ch,.int .i64 b.wi,.int .i64 b.rd,.bool b.dp,.int .i64 b.cl.dx,.int .i64 b.cl.dy,.int .i64 b.cl.col])).run Tryz.prog w=.ok (.bool (decide (a=b))) w:=by
 have hp:Tryz.prog.stoodInHeld 60=false:=by kernel_rfl
 obtain⟨a0,a1,a2,a3,a4,a5,a6,a7⟩:=a
 obtain⟨b0,b1,b2,b3,b4,b5,b6,b7⟩:=b
 go_simp
 by_cases e0:a0=b0<;>by_cases e1:a1=b1<;>by_cases e2:a2=b2<;>by_cases e3:a3=b3<;>by_cases e4:a4=b4<;>by_cases e5:a5=b5<;>by_cases e6:a6=b6<;>by_cases e7:a7=b7<;>simp[e0,e1,e2,e3,e4,e5,e6,e7]
abbrev tbX(p:Pb):AB:=⟨false,1,6,84,lF (pbC p++ [.any])⟩
theorem zSq(s:Stp)(l:List Stp):∀k,k<l.length→∀j,j<8→zS stC stZ (s::l) (1+k) j=zS stC stZ l k j:=fun k _ j _=>by rw[Nat.add_comm];rfl
theorem zOj{ids ni:List Nat}{p:Pb}{l m:List AB}(h:zAV ids ni l m):zAV ids ni (tbX p::l) (tbX p::m):=
 ⟨⟨_,rfl,fun k hk j hj=>by
   obtain rfl:k=0:=Nat.lt_one_iff.mp hk
   match j,hj with
   |0,_|1,_|2,_|3,_|4,_=>exact .b (.imm _ rfl)
   |5,_=>exact .b (.any _)⟩,h⟩
theorem zSS{p:Pb}{rec:List Int→List Stp→Option (List Stp)}(hr:∀ch l x,rec ch l=some x→x.length≤l.length){ch:List Int}{c:Nat}:∀{l x:List Stp},zF9 p rec ch c l=some x→x.length≤l.length
 | [],_,h=>by cases h
 | s ::l,x,h=>by
   replace h:(if s.nm=ch.length∧s.ch=c then (if s.dp=true then (if s=zAP ch.length c then rec (ch++ [(c:Int)]) l else none)else (if zCe p ch c s=true then some l else none))else none)=some x:=h
   by_cases h1:s.nm=ch.length∧s.ch=c
   ·rw[if_pos h1]at h
    by_cases h2:s.dp=true
    ·rw[if_pos h2]at h
     by_cases h3:s=zAP ch.length c
     ·rw[if_pos h3]at h;exact Nat.le_trans (hr _ _ _ h) (Nat.le_succ _)
     ·rw[if_neg h3]at h;cases h
    ·rw[if_neg h2]at h
     by_cases h3:zCe p ch c s=true
     ·rw[if_pos h3]at h;cases h;exact Nat.le_succ _
     ·rw[if_neg h3]at h;cases h
   ·rw[if_neg h1]at h;cases h
theorem zMv{p:Pb}{rec:List Int→List Stp→Option (List Stp)}(hr:∀ch l x,rec ch l=some x→x.length≤l.length){ch:List Int}:∀{k c:Nat} {l x:List Stp},zCz p rec ch k c l=some x→x.length≤l.length
 |0,_,_,_,h=>by cases h;exact Nat.le_refl _
 | k+1,c,l,x,h=>by
   unfold zCz at h
   cases hs:zF9 p rec ch c l with
   |none=>rw[hs]at h;cases h
   |some y=>rw[hs]at h;exact Nat.le_trans (zMv hr h) (zSS hr hs)
theorem zMx(p:Pb):∀(m:Nat) (ch:List Int) (l x:List Stp),zBo p m ch l=some x→x.length≤l.length
 |0,_,_,_,h=>by cases h
 |m+1,_,_,_,h=>zMv (zMx p m) h
theorem zMw(p:Pb)(hp:p.fit):∀(m:Nat) (ch:List Int) (l:List Stp),ch.length+m=p.C.length→ChOk p ch→l.length≤1000000→
 (∀x,zBo p m ch l=some x→zEP Tryz.prog 39 [.c (.pt 1000 6 0 0),.c (zAm l)] [tbB p 800] [chI ch] (.c (zAm x)) [tbB p 900] [chI ch])∧
 (zBo p m ch l=none→zEO Tryz.prog zFl 39 [.c (.pt 1000 6 0 0),.c (zAm l)] [tbB p 800] [chI ch] [tbX p] [])
 | 0,ch,l,hm,hc,hl=>by
   have lC:=hp.c;have h80:((800+0,chI ch):Nat×AB).snd.n=ch.length:=rfl;have hi:¬(ch.length:Int)<p.C.length:=by omega
   refine⟨(fun x e=>by cases e),fun _=> ?_⟩
   refine zIX Tryz.func39 rfl Tryz.ntmps39 rfl ?_;refine vB [0,1] ?_;refine AWp.die ?_;refine ADie.split 8 ?_;refine xE8 ?_;refine aB ?_;refine ADie.call [] [] [] [] [] [] [] [] [] rfl FnV.func rfl Tryz.func38 rfl xC (trivial) (trivial) rfl (by exact⟨.c (.b (.imm _ rfl)),trivial⟩) (trivial) (trivial) (zC3) ?_
   refine⟨rfl,mkG (fun _=>True) 0 false 171 1 [] [(1000,tbX p)] [],[],rfl,Wk.mkG [] rfl rfl rfl rfl rfl trivial ⟨zY rfl rfl ⟨LeC.refl _ rfl,LeC.refl _ rfl,LeC.refl _ rfl,LeC.refl _ rfl,LeC.refl _ rfl,LeC.any _,trivial⟩ rfl,trivial⟩ rfl rfl (fun _ _=>trivial),rfl,rfl⟩
 | m + 1,ch,l0,hm,hc,hl0=>by
   have lC:=hp.c;have lO:=hp.o;have h80:((800+0,chI ch):Nat×AB).snd.n=ch.length:=rfl;have hi:ch.length<p.C.length:=by omega
   have hi':(ch.length:Int)<p.C.length:=by omega
   have hL32:=hp.l _ (zAH (L:=p.C) (k:=ch.length) (z:= []) hi);have hcF:chF p.C ch.length 0=lsB (p.C.getD ch.length []):=rfl;have hih:=zMw p hp m;have hR1:=hp.ok.lR
   obtain⟨V,hV⟩:∃V,zBo p (m+1) ch l0=V:=⟨_,rfl⟩
   rw[hV]
   replace hV:zCz p (zBo p m) ch (p.C.getD ch.length []).length 0 l0=V:=hV
   obtain⟨n,hn⟩:∃n,(p.C.getD ch.length []).length=n:=⟨_,rfl⟩
   rw[hn]at hV;refine zQ7 (V:=V) (r:=fun x=>.c (zAm x)) Tryz.func39 rfl rfl Tryz.ntmps39 rfl ?_
   repeat (first
    |refine vB [0,1,3,4] ?_
    | (refine rG 2 ?_
       refine xE8 ?_;refine xB Tryz.func38 zEE ?_;refine aB ?_))
   refine AWp.cut (mkG (fun _=>True) 0 false 171 1 [(0,.c (.pt 1000 6 0 0)),(1,.c (zAm l0)),(5,.c (iC (ch.length:Nat))),(6,.c (lsR (rdL p.R)))] [(30,chI ch),(1000,tbB p 30)] [30]) ?_ (fun S2 hw2=>AWp.weak hw2 ?_)
   ·unfold rdL
    by_cases h:p.R= []
    ·have h0:((p.R.length:Nat):Int)=0:=by rw[h];rfl
     rw[if_pos h];refine vB [5] ?_
     refine⟨rfl,Wk.mkG [(30,some 800)] rfl rfl rfl rfl rfl ?_ ?_ rfl rfl (fun _ _=>trivial)⟩
     ·repeat (first|exact trivial|refine⟨⟨_,rfl,by first|exact LeA.c (zEb rfl zJu)|exact LeA.c (LeC.ptB _ _ _ _ rfl)|exact leT⟩,?_⟩)
     ·exact⟨HeapOk.row rfl rfl rfl (fun _ _=>zZ ⟨rfl,rfl⟩),zY rfl rfl ⟨LeC.refl _ rfl,LeC.refl _ rfl,LeC.refl _ rfl,LeC.refl _ rfl,LeC.refl _ rfl,LeC.ow _ _ rfl,trivial⟩ rfl,trivial⟩
    ·have h0:¬((p.R.length:Nat):Int)=0:=fun h0=>h (List.eq_nil_of_length_eq_zero xD)
     rw[if_neg h];refine vB [] ?_
     refine⟨rfl,Wk.mkG [(30,some 800)] rfl rfl rfl rfl rfl ?_ ?_ rfl rfl (fun _ _=>trivial)⟩
     ·repeat (first|exact trivial|refine⟨⟨_,rfl,by first|exact LeA.c (LeC.ptB _ _ _ _ rfl)|exact leT⟩,?_⟩)
     ·exact⟨HeapOk.row rfl rfl rfl (fun _ _=>zZ ⟨rfl,rfl⟩),zY rfl rfl ⟨LeC.refl _ rfl,LeC.refl _ rfl,LeC.refl _ rfl,LeC.refl _ rfl,LeC.refl _ rfl,LeC.ow _ _ rfl,trivial⟩ rfl,trivial⟩
   have hrl:=zJx hp.ok.rd
   repeat (first
    |refine vB [] ?_
    | (refine rG 6 ?_
       refine xE6 ?_;refine zG (aP (k:=ch.length) zA) ?_;refine zAq zA (hcF) rfl rfl rfl rfl rfl oM ?_;refine xE2 ?_;refine aB ?_))
   refine AWp.round (fun s:Nat×List Stp=>
    mkG (fun _=>True) 0 false 171 1 [(0,.c (.pt 1000 6 0 0)),(1,.c (zAm (s.2))),(5,.c (iC (ch.length:Nat))),(6,.c (lsR (rdL p.R))),(43,.c (iC (n:Nat))),(44,.c (iC (s.1:Nat)))] [(30,chI ch),(1000,tbB p 30)] [30]
    ) (fun s=>s.1≤n∧s.2.length≤1000000∧zCz p (zBo p m) ch (n-s.1) s.1 s.2=V) (fun s=>n-s.1) (0,l0) ⟨Nat.zero_le _,hl0,hV⟩ ?_ (fun s hs=> ?_)
   ·refine Wk.mkG [(30,some 30)] rfl rfl rfl rfl rfl ?_ ?_ rfl rfl (fun _ _=>trivial)
    ·dsimp only
     rw[←hn]
     repeat (first|exact trivial|refine⟨⟨_,rfl,by first|exact LeA.c (LeC.ptB _ _ _ _ rfl)|exact leT⟩,?_⟩)
    ·exact⟨HeapOk.row rfl rfl rfl (fun _ _=>zZ ⟨rfl,rfl⟩),zY rfl rfl ⟨LeC.refl _ rfl,LeC.refl _ rfl,LeC.refl _ rfl,LeC.refl _ rfl,LeC.refl _ rfl,LeC.ow _ _ rfl,trivial⟩ rfl,trivial⟩
   obtain⟨c,l⟩:=s
   obtain⟨hcn,hll,hfw⟩:=hs
   dsimp only at hcn hll hfw⊢;clear hV;by_cases hcl:c<n;rotate_left
   ·have hcl':¬(c:Int)<n:=by omega
    rw[show n-c=0 by omega]at hfw;obtain rfl:some l=V:=hfw;refine vB [7,21] ?_
    refine⟨mkG (fun _=>True) 0 false 171 1 [(4,.c (zAm l))] [(900,chI ch),(1000,tbB p 900)] [900],[],_,[tbB p 900],[chI ch],⟨rfl,rfl,rfl⟩,rfl,Wk.mkG [(900,some 30)] rfl rfl rfl rfl rfl ?_ ?_ rfl rfl (fun _ _=>trivial),rfl,rfl,GRets.one (x:=.c _) (GRes.tmp rfl)⟩
    ·exact zB
    ·exact⟨HeapOk.row rfl rfl rfl (fun _ _=>zZ ⟨rfl,rfl⟩),zY rfl rfl ⟨LeC.refl _ rfl,LeC.refl _ rfl,LeC.refl _ rfl,LeC.refl _ rfl,LeC.refl _ rfl,LeC.ow _ _ rfl,trivial⟩ rfl,trivial⟩
   have hcl':(c:Int)<n:=by omega
   obtain⟨k,hk⟩:∃k,n-c=k+1:=⟨n-c-1,by omega⟩
   have hk2:n-(c+1)=k:=by omega
   rw[hk]at hfw
   replace hfw:(zF9 p (zBo p m) ch c l).bind (zCz p (zBo p m) ch k (c+1))=V:=hfw
   cases l with
   | nil=>
     obtain rfl:none=V:=hfw;refine vB [7,8] ?_;refine AWp.die ?_;refine ADie.split 19 ?_
     (iterate 19 refine vA ?_);refine aB ?_;refine ADie.call [] [] [] [] [] [] [] [] [] rfl FnV.func rfl Tryz.func38 rfl xC (trivial) (trivial) rfl (by exact⟨.c (.b (.imm _ rfl)),trivial⟩) (trivial) (trivial) (zC3) ?_
     refine⟨rfl,mkG (fun _=>True) 0 false 171 1 [] [(1000,tbX p)] [],[],rfl,Wk.mkG [] rfl rfl rfl rfl rfl trivial ⟨zY rfl rfl ⟨LeC.refl _ rfl,LeC.refl _ rfl,LeC.refl _ rfl,LeC.refl _ rfl,LeC.refl _ rfl,LeC.any _,trivial⟩ rfl,trivial⟩ rfl rfl (fun _ _=>trivial),rfl,rfl⟩
   |cons s r=>
   have hlr:r.length≤1000000:=by simp only[List.length_cons]at hll;omega
   have e54:zS stC stZ (s::r) 0 0=iC s.nm:=rfl;have e62:zS stC stZ (s::r) 0 1=iC s.ch:=rfl;have e69:zAT (zS stC stZ (s::r) 0) 0 8=stC s:=rfl;have hl2:((s::r).length:Int)>0:=by simp only[List.length_cons];omega
   replace hfw:(if s.nm=ch.length∧s.ch=c then (if s.dp=true then (if s=zAP ch.length c then zBo p m (ch++ [(c:Int)]) r else none)else (if zCe p ch c s=true then some r else none))else none).bind (zCz p (zBo p m) ch k (c+1))=V:=hfw
   by_cases d1:s.nm=ch.length;rotate_left
   ·rw[if_neg fun h=>d1 h.1]at hfw
    obtain rfl:none=V:=hfw;refine vB [7,8] ?_;refine AWp.die ?_;refine ADie.split 19 ?_;refine xE5 ?_;refine zG (aP (k:=0) zA) ?_;refine vA ?_;refine zAq zA (e54) rfl rfl rfl rfl rfl oM ?_;refine zCn ?_;refine aB ?_;refine ADie.call [] [] [] [] [] [] [] [] [] rfl FnV.func rfl Tryz.func38 rfl xC (trivial) (trivial) rfl (by exact⟨.c (.b (.imm _ rfl)),trivial⟩) (trivial) (trivial) (zC3) ?_
    refine⟨rfl,mkG (fun _=>True) 0 false 171 1 [] [(1000,tbX p)] [],[],rfl,Wk.mkG [] rfl rfl rfl rfl rfl trivial ⟨zY rfl rfl ⟨LeC.refl _ rfl,LeC.refl _ rfl,LeC.refl _ rfl,LeC.refl _ rfl,LeC.refl _ rfl,LeC.any _,trivial⟩ rfl,trivial⟩ rfl rfl (fun _ _=>trivial),rfl,rfl⟩
   by_cases d2:s.ch=c;rotate_left
   ·rw[if_neg fun h=>d2 h.2]at hfw
    obtain rfl:none=V:=hfw;refine vB [7,8] ?_;refine AWp.die ?_;refine ADie.split 19 ?_;refine xE5 ?_;refine zG (aP (k:=0) zA) ?_;refine vA ?_;refine zAq zA (e54) rfl rfl rfl rfl rfl oM ?_;refine xE5 ?_;refine zG (aP (k:=0) zA) ?_;refine vA ?_;refine zAq zA (e62) rfl rfl rfl rfl rfl oM ?_;refine xE3 ?_;refine aB ?_;refine ADie.call [] [] [] [] [] [] [] [] [] rfl FnV.func rfl Tryz.func38 rfl xC (trivial) (trivial) rfl (by exact⟨.c (.b (.imm _ rfl)),trivial⟩) (trivial) (trivial) (zC3) ?_
    refine⟨rfl,mkG (fun _=>True) 0 false 171 1 [] [(1000,tbX p)] [],[],rfl,Wk.mkG [] rfl rfl rfl rfl rfl trivial ⟨zY rfl rfl ⟨LeC.refl _ rfl,LeC.refl _ rfl,LeC.refl _ rfl,LeC.refl _ rfl,LeC.refl _ rfl,LeC.any _,trivial⟩ rfl,trivial⟩ rfl rfl (fun _ _=>trivial),rfl,rfl⟩
   rw[if_pos ⟨d1,d2⟩]at hfw
   repeat (first
    |refine vB [7,8] ?_
    | (refine rG 9 ?_
       refine xE5 ?_;refine zG (aP (k:=0) zA) ?_;refine vA ?_;refine zAq zA (e54) rfl rfl rfl rfl rfl oM ?_;refine xE5 ?_;refine zG (aP (k:=0) zA) ?_;refine vA ?_;refine zAq zA (e62) rfl rfl rfl rfl rfl oM ?_;refine xE3 ?_;refine xB Tryz.func38 zEE ?_;refine aB ?_)
    | (refine rG 10 ?_
       refine vA ?_;refine zG (aP (k:=0) zA) ?_;refine zKr zA (e69) rfl rfl rfl rfl rfl oM ?_;refine xE2 ?_;refine aB ?_)
    | (refine rG 11 ?_
       refine vA ?_;refine AList.cut (l:=1) (h:=(s::r).length) zA rfl rfl rfl rfl rfl rfl rfl ⟨_,_,rfl,by first|rfl|omega⟩ rfl xD xD ?_;refine vA ?_;refine aB ?_))
   refine AWp.weak (S':=mkG (fun _=>True) 0 false 171 1 [(0,.c (.pt 1000 6 0 0)),(1,.c (zAm r)),(5,.c (iC (ch.length:Nat))),(6,.c (lsR (rdL p.R))),(7,.c (iC (c:Nat))),(8,.c (.pt 8 8 0 0)),(43,.c (iC (n:Nat))),(44,.c (iC (c:Nat)))] [(8,⟨false,1,8,60,lF (stC s)⟩),(30,chI ch),(1000,tbB p 30)] [8,30]) (Wk.mkG [(8,some 8),(30,some 30)] rfl rfl rfl rfl rfl ?_ ?_ rfl rfl (fun _ _=>trivial)) ?_
   ·repeat (first|exact trivial|refine⟨⟨_,rfl,by first|exact LeA.c (LeC.ptB _ _ _ _ rfl)|exact LeA.c (zEb rfl (zSq s r))|exact leT⟩,?_⟩)
   ·exact⟨hSm,HeapOk.row rfl rfl rfl (fun _ _=>zZ ⟨rfl,rfl⟩),zY rfl rfl ⟨LeC.refl _ rfl,LeC.refl _ rfl,LeC.refl _ rfl,LeC.refl _ rfl,LeC.refl _ rfl,LeC.ow _ _ rfl,trivial⟩ rfl,trivial⟩
   clear e54 e62 e69 hl2 hll hl0
   obtain⟨nm,sc,wi,rd,dp,cl⟩:=s
   dsimp only at d1 d2 hfw
   cases dp with
   | true=>
     have hdA:=zL3 (ch.length:Nat) (c:Nat);have hq:=zOa ⟨nm,sc,wi,rd,true,cl⟩ (zAP ch.length c);by_cases d3:(⟨nm,sc,wi,rd,true,cl⟩:Stp)=zAP ch.length c;rotate_left
     ·rw[if_pos rfl,if_neg d3]at hfw
      obtain rfl:none=V:=hfw;rw[decide_eq_false d3]at hq;refine vB [12] ?_;refine zEN 5 zI ?_;refine xE3 ?_;refine xB Tryz.func61 hdA ?_;refine zDq rfl rfl rfl rfl rfl rfl xC (hq) ?_;refine aB ⟨by kernel_rfl,?_⟩;refine ADie.call [] [] [] [] [] [] [] [] [] rfl FnV.func rfl Tryz.func38 rfl xC (trivial) (trivial) rfl (by exact⟨.c (.b (.imm _ rfl)),trivial⟩) (trivial) (trivial) (zC3) ?_
      refine⟨rfl,mkG (fun _=>True) 0 false 171 1 [] [(1000,tbX p)] [],[],rfl,Wk.mkG [] rfl rfl rfl rfl rfl trivial ⟨zY rfl rfl ⟨LeC.refl _ rfl,LeC.refl _ rfl,LeC.refl _ rfl,LeC.refl _ rfl,LeC.refl _ rfl,LeC.any _,trivial⟩ rfl,trivial⟩ rfl rfl (fun _ _=>trivial),rfl,rfl⟩
     rw[if_pos rfl,if_pos d3]at hfw;rw[decide_eq_true d3]at hq;have hck:ChOk p (ch++ [(c:Int)]):=hc.snoc (hp.pk hi (by rw[hn];exact hcl))
     obtain⟨hF1,hF2⟩:=hih (ch++ [(c:Int)]) r (by rw[List.length_append,List.length_singleton];omega) hck hlr
     repeat (first
      |refine vB [12] ?_
      |(refine AWp.draw (id:=16) zI ?_;refine xE3 ?_;refine xB Tryz.func61 hdA ?_;refine zDq rfl rfl rfl rfl rfl rfl xC (hq) ?_;refine xB Tryz.func38 zEE ?_;refine aB ⟨by kernel_rfl,?_⟩)
      | (refine rG 17 ?_
         refine xE7 ?_;refine zBg zA rfl rfl rfl rfl rfl rfl rfl rfl rfl rfl oM oM ?_;refine xE3 ?_;refine aB ?_))
     refine AWp.weak (S':=mkG (fun _=>True) 0 false 171 1 [(0,.c (.pt 1000 6 0 0)),(1,.c (zAm r)),(5,.c (iC (ch.length:Nat))),(6,.c (lsR (rdL p.R))),(43,.c (iC (n:Nat))),(44,.c (iC (c:Nat)))] [(30,chI (ch++ [(c:Int)])),(1000,tbB p 30)] [30]) (Wk.mkG [(30,some 154)] rfl rfl rfl rfl rfl ?_ ?_ rfl rfl (fun _ _=>trivial)) ?_
     ·repeat (first|exact trivial|refine⟨⟨_,rfl,by first|exact LeA.c (LeC.ptB _ _ _ _ rfl)|exact leT⟩,?_⟩)
     ·exact⟨HeapOk.row rfl rfl List.length_append (zDc ch c),zY rfl rfl ⟨LeC.refl _ rfl,LeC.refl _ rfl,LeC.refl _ rfl,LeC.refl _ rfl,LeC.refl _ rfl,LeC.ow _ _ rfl,trivial⟩ rfl,trivial⟩
     cases hfv:zBo p m (ch++ [(c:Int)]) r with
     | none=>
       rw[hfv]at hfw;obtain rfl:none=V:=hfw;have hdie:=hF2 hfv;refine AWp.die ?_;refine ADie.split 2 ?_;refine xE2 ?_;refine aB ?_;refine ADie.call [1000] [30] [] [tbB p 800] [chI (ch++ [(c:Int)])] [tbX p] [] [tbX p] [] rfl FnV.func rfl Tryz.func39 rfl xC (zCk 0 rfl rfl trivial) (⟨⟨_,rfl,rfl,fun _ _ _ _=>⟨rfl,rfl⟩⟩,trivial⟩) rfl (by exact⟨.c (.b (.pt 1000 0 6 0 0 rfl)),.c (.b (.imm _ rfl)),trivial⟩) (zOj trivial) (trivial) (hdie) ?_
       refine⟨rfl,mkG (fun _=>True) 0 false 171 1 [] [(1000,tbX p)] [],[],rfl,Wk.mkG [] rfl rfl rfl rfl rfl trivial ⟨zY rfl rfl ⟨LeC.refl _ rfl,LeC.refl _ rfl,LeC.refl _ rfl,LeC.refl _ rfl,LeC.refl _ rfl,LeC.any _,trivial⟩ rfl,trivial⟩ rfl rfl (fun _ _=>trivial),rfl,rfl⟩
     | some x=>
       rw[hfv]at hfw
       replace hfw:zCz p (zBo p m) ch k (c+1) x=V:=hfw
       have hgo:=hF1 x hfv;have hxl:x.length≤1000000:=Nat.le_trans (zMx p m _ _ _ hfv) hlr;have h34:ch.length≤((34,chI (ch++ [(c:Int)])):Nat×AB).snd.n:=by show _≤(ch++ [(c:Int)]).length;rw[List.length_append];omega
       repeat (first
        |refine vB [20] ?_
        | (refine rG 18 ?_
           refine xE2 ?_;refine zCv [1000] [30] [34] [tbB p 800] [chI (ch++ [(c:Int)])] [tbB p 900] [chI (ch++ [(c:Int)])] [tbB p 34] [chI (ch++ [(c:Int)])] rfl rfl FnV.func rfl Tryz.func39 rfl xC (zCk 0 rfl rfl trivial) (⟨⟨_,rfl,rfl,fun _ _ _ _=>⟨rfl,rfl⟩⟩,trivial⟩) rfl (by exact⟨.c (.b (.pt 1000 0 6 0 0 rfl)),.c (.b (.imm _ rfl)),trivial⟩) (.c (.imm _ rfl)) (zCC 0 rfl trivial) (⟨⟨_,rfl,fun _ _ _ _=>.imm _ rfl⟩,trivial⟩) (hgo) ?_;refine vA ?_;refine aB ?_)
        | (refine rG 19 ?_
           refine xE6 ?_;refine zHW (m:=ch.length) zA rfl rfl rfl rfl rfl rfl rfl rfl rfl ⟨_,_,rfl,by first|rfl|omega⟩ xD ?_;refine xE3 ?_;refine aB ?_))
       refine⟨(c+1,x),⟨hcl,hxl,by dsimp only;rw[hk2];exact hfw⟩,Wk.mkG [(30,some 166)] rfl rfl rfl rfl rfl ?_ ?_ rfl rfl (fun _ _=>trivial),by dsimp only;omega⟩
       ·repeat (first|exact trivial|refine⟨⟨_,rfl,by first|exact LeA.c (LeC.ptB _ _ _ _ rfl)|exact leT⟩,?_⟩)
       ·exact⟨HeapOk.row rfl rfl rfl (fun k hk=>zZ ⟨congrArg iC (zEZ hk),rfl⟩),zY rfl rfl ⟨LeC.refl _ rfl,LeC.refl _ rfl,LeC.refl _ rfl,LeC.refl _ rfl,LeC.refl _ rfl,LeC.ow _ _ rfl,trivial⟩ rfl,trivial⟩
   | false =>
     rw[if_neg (by decide)]at hfw;have hg0:¬(wi<ch.length∧-(p.F.length:Int)≤wi∧0≤rd∧rd<(rdL p.R).length)→none=V:=fun h=>by
      rw[if_neg]at hfw
      ·exact hfw
      ·unfold zCe
       rw[decide_eq_false h,Bool.false_and];exact Bool.false_ne_true
     have hF0:=hp.f;by_cases g1:wi<ch.length;rotate_left
     ·obtain rfl:=hg0 fun h=>g1 h.1
      refine vB [12] ?_;refine zEN 28 zI ?_
      (iterate 28 refine vA ?_);refine aB ⟨by kernel_rfl,?_⟩;refine ADie.call [] [] [] [] [] [] [] [] [] rfl FnV.func rfl Tryz.func38 rfl xC (trivial) (trivial) rfl (by exact⟨.c (.b (.imm _ rfl)),trivial⟩) (trivial) (trivial) (zC3) ?_
      refine⟨rfl,mkG (fun _=>True) 0 false 171 1 [] [(1000,tbX p)] [],[],rfl,Wk.mkG [] rfl rfl rfl rfl rfl trivial ⟨zY rfl rfl ⟨LeC.refl _ rfl,LeC.refl _ rfl,LeC.refl _ rfl,LeC.refl _ rfl,LeC.refl _ rfl,LeC.any _,trivial⟩ rfl,trivial⟩ rfl rfl (fun _ _=>trivial),rfl,rfl⟩
     by_cases g2:wi≥-(p.F.length:Int);rotate_left
     ·obtain rfl:=hg0 fun h=>g2 h.2.1
      refine vB [12] ?_;refine zEN 28 zI ?_
      (iterate 28 refine vA ?_);refine aB ⟨by kernel_rfl,?_⟩;refine ADie.call [] [] [] [] [] [] [] [] [] rfl FnV.func rfl Tryz.func38 rfl xC (trivial) (trivial) rfl (by exact⟨.c (.b (.imm _ rfl)),trivial⟩) (trivial) (trivial) (zC3) ?_
      refine⟨rfl,mkG (fun _=>True) 0 false 171 1 [] [(1000,tbX p)] [],[],rfl,Wk.mkG [] rfl rfl rfl rfl rfl trivial ⟨zY rfl rfl ⟨LeC.refl _ rfl,LeC.refl _ rfl,LeC.refl _ rfl,LeC.refl _ rfl,LeC.refl _ rfl,LeC.any _,trivial⟩ rfl,trivial⟩ rfl rfl (fun _ _=>trivial),rfl,rfl⟩
     by_cases g3:rd≥0;rotate_left
     ·obtain rfl:=hg0 fun h=>g3 h.2.2.1
      refine vB [12] ?_;refine zEN 28 zI ?_
      (iterate 28 refine vA ?_);refine aB ⟨by kernel_rfl,?_⟩;refine ADie.call [] [] [] [] [] [] [] [] [] rfl FnV.func rfl Tryz.func38 rfl xC (trivial) (trivial) rfl (by exact⟨.c (.b (.imm _ rfl)),trivial⟩) (trivial) (trivial) (zC3) ?_
      refine⟨rfl,mkG (fun _=>True) 0 false 171 1 [] [(1000,tbX p)] [],[],rfl,Wk.mkG [] rfl rfl rfl rfl rfl trivial ⟨zY rfl rfl ⟨LeC.refl _ rfl,LeC.refl _ rfl,LeC.refl _ rfl,LeC.refl _ rfl,LeC.refl _ rfl,LeC.any _,trivial⟩ rfl,trivial⟩ rfl rfl (fun _ _=>trivial),rfl,rfl⟩
     by_cases g4:rd<(rdL p.R).length;rotate_left
     ·obtain rfl:=hg0 fun h=>g4 h.2.2.2
      refine vB [12] ?_;refine zEN 28 zI ?_
      (iterate 28 refine vA ?_);refine aB ⟨by kernel_rfl,?_⟩;refine ADie.call [] [] [] [] [] [] [] [] [] rfl FnV.func rfl Tryz.func38 rfl xC (trivial) (trivial) rfl (by exact⟨.c (.b (.imm _ rfl)),trivial⟩) (trivial) (trivial) (zC3) ?_
      refine⟨rfl,mkG (fun _=>True) 0 false 171 1 [] [(1000,tbX p)] [],[],rfl,Wk.mkG [] rfl rfl rfl rfl rfl trivial ⟨zY rfl rfl ⟨LeC.refl _ rfl,LeC.refl _ rfl,LeC.refl _ rfl,LeC.refl _ rfl,LeC.refl _ rfl,LeC.any _,trivial⟩ rfl,trivial⟩ rfl rfl (fun _ _=>trivial),rfl,rfl⟩
     clear hg0
     obtain⟨mr,rfl⟩:=Int.eq_ofNat_of_zero_le g3
     have hmr:mr<(rdL p.R).length:=by omega
     have hO:=zNk p hp ch wi (by
      by_cases h:wi<0
      ·exact .inl ⟨(-1-wi).toNat,by omega,by omega,by have:=hp.t;omega⟩
      ·exact .inr ⟨wi.toNat,by omega,by omega⟩) hc
     have hH:=zRg ((rdL p.R).getD mr rdZ) ((p.C.getD ch.length []).getD c bpZ) (obB p ch wi) (p.O.getD ch.length bgZ) (obG p wi) cl (hrl _ (zAH hmr));have hgd:zCe p ch c ⟨nm,sc,wi,mr,false,cl⟩=zEq ((rdL p.R).getD mr rdZ) ((p.C.getD ch.length []).getD c bpZ) (obB p ch wi) (p.O.getD ch.length bgZ) (obG p wi) cl:=by
      unfold zCe;rw[decide_eq_true ⟨g1,g2,g3,g4⟩,Bool.true_and]
      rfl
     rw[hgd]at hfw;generalize zEq ((rdL p.R).getD mr rdZ) ((p.C.getD ch.length []).getD c bpZ) (obB p ch wi) (p.O.getD ch.length bgZ) (obG p wi) cl=hv at *;generalize obB p ch wi=B at *;generalize obG p wi=G at *
     cases hv with
     | false=>
       obtain rfl:none=V:=hfw
       repeat (first
        |refine vB [12] ?_
        |(refine AWp.draw (id:=13) zI ?_;(iterate 28 refine vA ?_);refine xB Tryz.func38 zEE ?_;refine aB ⟨by kernel_rfl,?_⟩)
        | (refine rG 14 ?_
           refine xE3 ?_;refine zCv [1000] [30] [31] [tbB p 800] [chI ch] [tbB p 900] [chI ch] [tbB p 31] [chI ch] rfl rfl FnV.func rfl Tryz.func59 rfl xC (zCk 0 rfl rfl trivial) (⟨⟨_,rfl,rfl,fun _ _ _ _=>⟨rfl,rfl⟩⟩,trivial⟩) rfl (by exact⟨.c (.b (.pt 1000 0 6 0 0 rfl)),.c (.b (.imm _ rfl)),trivial⟩) (zDL (bpC B) (bgC G) rfl rfl) (zCC 0 rfl trivial) (⟨⟨_,rfl,fun _ _ _ _=>.imm _ rfl⟩,trivial⟩) (hO) ?_;refine xE7 ?_;refine aB ?_))
       refine zEN 29 zI ?_;refine xE3 ?_;refine zG (aP (k:=mr) zA) ?_;refine xE7 ?_;refine zG (aP (k:=ch.length) zA) ?_;refine zAq zA (hcF) rfl rfl rfl rfl rfl oM ?_;refine vA ?_;refine zG (aP (k:=c) zA) ?_;refine xE8 ?_;refine zG (aP (k:=ch.length) zA) ?_;refine xE4 ?_;refine xB Tryz.func65 hH ?_;refine aB ⟨by kernel_rfl,?_⟩;refine ADie.call [] [] [] [] [] [] [] [] [] rfl FnV.func rfl Tryz.func38 rfl xC (trivial) (trivial) rfl (by exact⟨.c (.b (.imm _ rfl)),trivial⟩) (trivial) (trivial) (zC3) ?_
       refine⟨rfl,mkG (fun _=>True) 0 false 171 1 [] [(1000,tbX p)] [],[],rfl,Wk.mkG [] rfl rfl rfl rfl rfl trivial ⟨zY rfl rfl ⟨LeC.refl _ rfl,LeC.refl _ rfl,LeC.refl _ rfl,LeC.refl _ rfl,LeC.refl _ rfl,LeC.any _,trivial⟩ rfl,trivial⟩ rfl rfl (fun _ _=>trivial),rfl,rfl⟩
     | true=>
       replace hfw:zCz p (zBo p m) ch k (c+1) r=V:=hfw
       repeat (first
        |refine vB [12,20] ?_
        |(refine AWp.draw (id:=13) zI ?_;(iterate 28 refine vA ?_);refine xB Tryz.func38 zEE ?_;refine aB ⟨by kernel_rfl,?_⟩)
        | (refine rG 14 ?_
           refine xE3 ?_;refine zCv [1000] [30] [31] [tbB p 800] [chI ch] [tbB p 900] [chI ch] [tbB p 31] [chI ch] rfl rfl FnV.func rfl Tryz.func59 rfl xC (zCk 0 rfl rfl trivial) (⟨⟨_,rfl,rfl,fun _ _ _ _=>⟨rfl,rfl⟩⟩,trivial⟩) rfl (by exact⟨.c (.b (.pt 1000 0 6 0 0 rfl)),.c (.b (.imm _ rfl)),trivial⟩) (zDL (bpC B) (bgC G) rfl rfl) (zCC 0 rfl trivial) (⟨⟨_,rfl,fun _ _ _ _=>.imm _ rfl⟩,trivial⟩) (hO) ?_;refine xE7 ?_;refine aB ?_)
        |(refine AWp.draw (id:=15) zI ?_;refine xE3 ?_;refine zG (aP (k:=mr) zA) ?_;refine xE7 ?_;refine zG (aP (k:=ch.length) zA) ?_;refine zAq zA (hcF) rfl rfl rfl rfl rfl oM ?_;refine vA ?_;refine zG (aP (k:=c) zA) ?_;refine xE8 ?_;refine zG (aP (k:=ch.length) zA) ?_;refine xE4 ?_;refine xB Tryz.func65 hH ?_;refine xB Tryz.func38 zEE ?_;refine aB ⟨by kernel_rfl,?_⟩))
       refine⟨(c+1,r),⟨hcl,hlr,by dsimp only;rw[hk2];exact hfw⟩,Wk.mkG [(30,some 31)] rfl rfl rfl rfl rfl ?_ ?_ rfl rfl (fun _ _=>trivial),by dsimp only;omega⟩
       ·repeat (first|exact trivial|refine⟨⟨_,rfl,by first|exact LeA.c (LeC.ptB _ _ _ _ rfl)|exact leT⟩,?_⟩)
       ·exact⟨HeapOk.row rfl rfl rfl (fun _ _=>zZ ⟨rfl,rfl⟩),zY rfl rfl ⟨LeC.refl _ rfl,LeC.refl _ rfl,LeC.refl _ rfl,LeC.refl _ rfl,LeC.refl _ rfl,LeC.ow _ _ rfl,trivial⟩ rfl,trivial⟩
end Go.Proofs.YtpefnljgalpllaaGreat
end
section
namespace Go.AV
open Go Go.RowKit Go.Flow
def Ins(t:Tmp)(v:Value)(d:Deferred)(ds:List Deferred)(a a':Act):Prop:=a'.tmps=a.tmps∧a.tmps.getD t undef=v∧∃pre,a.defers=pre++ds∧a'.defers=pre++d::ds
theorem Ins.eval{t:Tmp}{v:Value}{d:Deferred}{ds:List Deferred}{a a':Act}(h:Ins t v d ds a a'):a'.eval=a.eval:=by
 funext x
 cases x<;>simp[Act.eval,h.1]
theorem Ins.put{t:Tmp}{v:Value}{d:Deferred}{ds:List Deferred}{a a':Act}(h:Ins t v d ds a a'){dst:Option Tmp}(hd:dst≠some t){u:Value}:Ins t v d ds (a.put dst u) (a'.put dst u):=by
 obtain⟨h1,h2,pre,h3,h4⟩:=h
 refine⟨?_,?_,pre,by rw[zDw];exact h3,by rw[zDw];exact h4⟩
 ·cases dst<;>simp[Act.put,h1]
 ·cases dst with
  |none=>exact h2
  | some k=>
    have:t≠k:=fun e=>hd (by rw[e])
    simp only[Act.put,Array.getD_eq_getD_getElem?]at h2⊢
    rw[Array.getElem?_setIfInBounds_ne (Ne.symm this)];exact h2
theorem zJ8{F:Fence}{n:Nat}{P:Program}{ops:Array Oper}{Q Q':Exit→Act→World→Prop}{t:Tmp}{v:Value}{d:Deferred}{ds:List Deferred}(hQ:∀e a a' w,Ins t v d ds a a'→Q e a w→Q' e a' w)(hout:LetsOut Q→LetsOut Q'):
 ∀(l:List Oper) (a a':Act) (w:World),(∀o∈l,o.dst≠some t)→Ins t v d ds a a'→wpListIn F n P ops Q l a w→wpListIn F n P ops Q' l a' w
 | [],a,a',w,_,hi,h=>hQ _ _ _ _ hi h
 | o ::l,a,a',w,hl,hi,h=>by
   have hlo:=hl o (List.mem_cons_self ..);have ih:=fun a a' w hi=>zJ8 (F:=F) (n:=n) (P:=P) (ops:=ops) hQ hout l a a' w (fun o ho=>hl o (List.mem_cons_of_mem _ ho)) hi
   unfold wpListIn at h⊢;rw[show yielded ops a'.tmps=yielded ops a.tmps by rw[hi.1]];by_cases hw:Region.wanted o (yielded ops a.tmps)=true
   ·rw[if_pos hw]at h⊢
    obtain⟨h1,h2⟩:=h
    refine⟨by rw[hi.eval];exact h1,?_⟩
    rw[hi.eval];generalize (o.semAt F.round a.eval).run P w=r at h2⊢;unfold Oper.uponIn at h2⊢
    split at h2
    ·exact ih _ _ _ (hi.put hlo) h2
    ·exact ih _ _ _ (hi.put hlo) h2
    ·rename_i d' w'
     refine ih _ _ _ (Ins.put ?_ hlo) h2
     obtain⟨k1,k2,pre,k3,k4⟩:=hi
     exact⟨k1,k2,d'::pre,by rw[List.cons_append,←k3],by rw[List.cons_append,←k4]⟩
    ·refine⟨h2.1,h2.2.mono fun e w' he=> ?_⟩
     cases e with
     |returned u=>exact ih _ _ _ (hi.put hlo) he
     |panicked ch=>exact hQ _ _ _ _ hi he
     |outgrown=>exact hout he
    ·exact⟨h2.1,h2.2.mono fun u w' he=>ih _ _ _ (hi.put hlo) he⟩
    ·refine⟨h2.1,h2.2.mono fun e w' he=> ?_⟩
     cases e with
     |returned u=>exact ih _ _ _ (hi.put hlo) he
     |panicked ch=>exact hQ _ _ _ _ hi he
     |outgrown=>exact hout he
    ·exact hQ _ _ _ _ hi h2
    ·exact h2.elim
   ·rw[if_neg hw]at h⊢
    exact⟨by rw[hi.eval];exact h.1,ih _ _ _ (hi.put hlo) h.2⟩
structure DWp(P:Program)(t:Tmp)(c:Code)(Q:Exit→St→Prop)(S:St):Prop where
 get:∀b0 a a' w v d ds,Rel b0 S a w→Ins t v d ds a a'→c.wpIn (fnc b0.rd) 0 P (fun e a' w'=>∃S' a,Rel b0 S' a w'∧Ins t v d ds a a'∧Q e S') a' w
section
variable{P:Program}{t:Tmp}{Q:Exit→St→Prop}{S:St}
theorem zMb{b0:zJ}{v:Value}{d:Deferred}{ds:List Deferred}(hQ:∀S,¬Q .outgrown S):LetsOut (fun e a w=>∃S',Rel b0 S' a w∧Q e S')→LetsOut (fun e a' w=>∃S' a,Rel b0 S' a w∧Ins t v d ds a a'∧Q e S'):=
 fun ⟨_,_,S',_,h⟩=>(hQ S' h).elim
theorem DWp.text{id:Nat}{l:List Oper}(hl:l.all (fun o=>o.dst !=some t)=true)(hQ:∀S,¬Q .outgrown S)(h:AText P l.toArray l S (fun S'=>Q .normal S')):DWp P t (.region id l.toArray false) Q S:=⟨fun b0 a a' w v d ds hR hi=>
 wpIn_region_lit (zJ8 (Q:=fun e a w=>∃S',Rel b0 S' a w∧Q e S') (fun e a a' w hi ⟨S',h1,h2⟩=>⟨S',a,h1,hi,h2⟩) (zMb hQ) l a a' w (fun o ho=>by have:=List.all_eq_true.1 hl o ho;simpa using this) hi (h.get _ b0 a w _ hR fun S a w h1 h2=>⟨S,h1,h2⟩))⟩
theorem DWp.die{id:Nat}{l:List Oper}(hl:l.all (fun o=>o.dst !=some t)=true)(hQ:∀S,¬Q .outgrown S)(h:ADie P l.toArray l S Q):DWp P t (.region id l.toArray false) Q S:=⟨fun b0 a a' w v d ds hR hi=>
 wpIn_region_lit (zJ8 (Q:=fun e a w=>∃S',Rel b0 S' a w∧Q e S') (fun e a a' w hi ⟨S',h1,h2⟩=>⟨S',a,h1,hi,h2⟩) (zMb hQ) l a a' w (fun o ho=>by have:=List.all_eq_true.1 hl o ho;simpa using this) hi (h.get _ b0 a w _ hR fun e S a w h1 h2=>⟨S,h1,h2⟩))⟩
theorem DWp.seq{x y:Code}(h:DWp P t x (zCl (DWp P t y Q) Q) S):DWp P t (.seq x y) Q S:=⟨fun b0 a a' w v d ds hR hi=>
 wpIn_seq (wpIn_mono (h.get b0 a a' w v d ds hR hi) fun e a' w ⟨S',a,h1,h2,h3⟩=>by cases e<;>first|exact h3.get b0 a a' w v d ds h1 h2|exact⟨S',a,h1,h2,h3⟩)⟩
theorem DWp.ret(h:Q .ret S):DWp P t .ret Q S:=⟨fun b0 a a' w v d ds hR hi=>wpIn_ret ⟨S,a,hR,hi,h⟩⟩
structure ADt(P:Program)(t:Tmp)(g:FuncId)(ops:Array Oper)(l:List Oper)(S S2:St):Prop where
 get:∀b0 a w (K:Exit→Act→World→Prop),b0.rd=none→Rel b0 S a w→(∀a a' w v ds,Rel b0 S2 a w→Ins t v {target:=.fn (.func g) #[v],args:= #[]} ds a a'→K .normal a' w)→wpListIn (fnc b0.rd) 0 P ops K l a w
theorem ADt.split{g:FuncId}{ops:Array Oper}{l:List Oper}{S2:St}(n:Nat)(h:AList P ops (l.take n) [] S (fun _ S1=>ADt P t g ops (l.drop n) S1 S2)):ADt P t g ops l S S2:=⟨fun b0 a w K hrd hR hK=>by
 have key:∀(l1:List Oper) (l2:List Oper) (acc:List (List Nat×List Nat)) (S:St) (a:Act) (w:World),zC9 P ops l1 acc S (fun _ S1=>ADt P t g ops l2 S1 S2)→Rel b0 S a w→wpListIn (fnc b0.rd) 0 P ops K (l1++l2) a w:=by
  intro l1 l2
  induction l1 with
  |nil=>exact fun acc S a w h hR=>h.get b0 a w K hrd hR hK
  | cons o l1 ih=>
    rintro acc S a w ⟨rd',e,hs,hk⟩ hR
    rw[List.cons_append];unfold wpListIn
    rcases hs.at hR with ⟨hw,hg⟩|⟨hw,hR'⟩
    ·rw[if_pos hw]
     exact hg.wpIn fun v w' hR'=>ih _ _ _ _ hk hR'
    ·rw[if_neg (by simp[hw])]
     exact⟨fun _ _=>trivial,ih _ _ _ _ hk hR'⟩
 have:=key (l.take n) (l.drop n) [] S a w h.get hR
 rwa [List.take_append_drop]at this⟩
theorem ADt.defer{g:FuncId}{ops:Array Oper}{S2:St}{z:Operand}{C:Nat→CV}{o:Nat}{ty:TypeId}{pos:String}{after:Array Edge}{guard:Option (Nat×Bool)}
 (hw:S.wants ops {dst:=none,op:=.defer {callee:=.value z,args:= #[],argTypes:= #[]},type:=ty,pos,after,guard}=some true)
 (hz:S.opd z=some (.c (.fn g 1 C))) (hC:C 0=.pt o 1 0 0) (ht:S.t t=some (.c (.pt o 1 0 0))) (hS:Wk S S2):ADt P t g ops [{dst:=none,op:=.defer {callee:=.value z,args:= #[],argTypes:= #[]},type:=ty,pos,after,guard}] S S2:=⟨fun b0 a w K hrd hR hK=>by
 have hR0:=hR
 obtain⟨σ,R⟩:=hR
 unfold wpListIn;rw[if_pos (zCm R hw)]
 refine⟨by rw[hrd];exact fun _ _=>trivial,?_⟩
 obtain⟨-,vs,e1,e2,e3⟩:=zX R hz
 obtain⟨u,f1,f2,f3⟩:=e3 0 (by omega)
 rw[hC]at f3
 obtain⟨v1,b1,g1,g2,g3⟩:=f3
 obtain⟨-,v2,b2,k1,k2,k3⟩:=R.sl t _ ht
 have huv:u=a.tmps.getD t undef:=by
  rw[g1]at k1
  cases k1
  rw[g2]at k2
  cases k2
  rw[g3,k3]
 have hvs:vs= [u]:=by
  match vs,e2,f1 with
  | [x],_,h=>cases h;rfl
 subst hvs;have hrun:(Oper.semAt (fnc b0.rd).round a.eval {dst:=none,op:=.defer {callee:=.value z,args:= #[],argTypes:= #[]},type:=ty,pos,after,guard}).run P w=.ok (.defer {target:=.fn (.func g) #[u],args:= #[]}) w:=by
  rw[hrd,show(fnc none).round=none from rfl,Oper.semAt_none]
  simp[execOp,resolve,e1,Deferred.ofValue]
 rw[hrun,Oper.uponIn_defer];show K .normal _ w;refine hK a _ w u a.defers (hS b0 a w hR0) ⟨rfl,huv.symm,[],rfl,?_⟩
 rfl⟩
end
theorem Marks.same{n0:Nat}{w w':World}(h:∀D:Nat,w.heap[D]?=some (Obj.deferred (some []))→w'.heap[D]?=w.heap[D]?):∀{ds:List Deferred},Marks n0 ds w→Marks n0 ds w'
 | [],_=>trivial
 |_::_,⟨⟨D,e1,e2,e3,e4⟩,hm⟩=>⟨⟨D,e1,e2,(h D e3).trans e3,e4⟩,Marks.same h hm⟩
theorem Marks.put{n0 D:Nat}{w:World}:∀{ds:List Deferred},(∀d'∈ds,d'≠{target:=.collected D,args:= #[]})→Marks n0 ds w→Marks n0 ds (w.putObj D (.deferred none))
 | [],_,_=>trivial
 |_::ds,h4,⟨⟨D',f1,f2,f3,f4⟩,hm⟩=>⟨⟨D',f1,f2,(World.putObj_heap_other fun e=>by subst e;exact h4 _ (List.mem_cons_self ..) f1).trans f3,f4⟩,Marks.put (fun d hd=>h4 d (List.mem_cons_of_mem _ hd)) hm⟩
theorem zHc{P:Program}{fn:Func}{tmps:Array Value}{R:Ending→World→Prop}{w0:World}{b:Nat}{o:Obj}(ho:o≠ .deferred (some [])){u:FrameMode}(hu:u≠ .run){ds tl:List Deferred}
 (rest:∀w,Marks w0.heap.size ds w→w.heap[b]?=some o→Ext w0 w→LeavesInM Fence.wide 0 P fn tmps R tl u w):
 ∀(pre:List Deferred) (w:World),Marks w0.heap.size (pre++ds) w→w.heap[b]?=some o→Ext w0 w→LeavesInM Fence.wide 0 P fn tmps R (pre++tl) u w
 | [],w,hm,hb,hE=>rest w hm hb hE
 | d::pre,w,hm,hb,hE=>by
   obtain⟨⟨D,e1,e2,e3,e4⟩,hm⟩:=hm
   have hne:b≠D:=fun e=>by subst e;rw[e3]at hb;cases hb;exact ho rfl
   have hk:Keep (fun k=>k=D) w (w.putObj D (.deferred none)):=⟨rfl,rfl,rfl,by rw[World.putObj_size];exact Nat.le_refl _,fun k _ hk=>World.putObj_heap_other hk⟩
   refine⟨hu,.inl ⟨D,_,by rw[e1],run_takeDeferred e3,?_⟩⟩
   exact zHc ho hu rest pre _ (Marks.put e4 hm) ((World.putObj_heap_other hne).trans hb) (hk.ext hE fun k hk=>by subst hk;exact e2)
theorem zPD{P:Program}{f:FuncId}{fn:Func}{c:Code}{args:List V1}{v:Value}(hv1:v.oneCell'=true)(hf:P.funcs[f]?=some fn)(hb:fn.body=some c)(hn:args.length≤fn.ntmps)
 (h:∀(b2:zJ) (a:Act),b2.rd=none→(∀b,¬b2.Y b)→(∀d b,¬b2.V d b)→Rel b2 (zBn fn.ntmps args []) a b2.w→c.wpIn (fnc b2.rd) 0 P (bodyPostM Fence.wide 0 P fn (fun e w'=>e=.returned v∧Ext b2.w w')) a b2.w):ACalls P f args (.c (.p v)):=
 ACalls.of fun O w vals hO hv=>by
  have hl:=hv.length
  let b2:zJ:=⟨w,O,fun _=>False,fun _=>none,hO,fun _ h=>h.elim,fun _ _ h=>h,(fun _ _ h=>by cases h),fun _ _=>False,fun _ _ _=>True,none,fun _ _ h=>h.elim,fun _ _ _ _ _ _ _ _=>trivial⟩
  have hno:∀b,own (fun _=>none) (zD ([]:List (Nat×AB))) b→False:=fun b ⟨i,v,h1,_⟩=>h1 rfl
  have hR:Rel b2 (zBn fn.ntmps args []) {tmps:=vals.toArray++Array.replicate (fn.ntmps-vals.toArray.size) undef,defers:= []} w:=by
   refine⟨fun _=>none,trivial,?_,⟨rfl,rfl,rfl,Nat.le_refl _,fun _ _ _=>rfl⟩,⟨fun i B hB=>(by cases hB),fun i j v1 v2 b hi=>absurd rfl hi,fun b hb=>(hno b hb).elim,fun i v hi=>(by cases hi),fun _ _ _=>rfl⟩,fun t x hx=> ?_,fun id hid=> ?_,(fun i v hi=>by cases hi),rfl,trivial⟩
   ·simp[zBn,hl];omega
   ·obtain⟨y,e1,rfl⟩:∃y,args[t]?=some y∧y.av=x:=by simpa[zBn,Option.map_eq_some_iff]using hx
    obtain⟨v,e2,e3⟩:=hv.get e1
    have ht:(vals.toArray++Array.replicate (fn.ntmps-vals.toArray.size) undef).getD t undef=v:=by
     have hlt:=(List.getElem?_eq_some_iff.1 e2).1;have:=(List.getElem?_eq_some_iff.1 e2).2
     simp[Array.getD_eq_getD_getElem?,Array.getElem?_append,hlt,this]
    rw[ht]
    exact(e3.keep (O':=out b2 (fun _=>none) (zD [])) (Keep.of_ext (Ext.refl w)) (fun b hb=>.inl (hb.elim (fun h=>(hno b h).elim) id)) fun _ _ h=>h).av
   ·exact⟨rfl,Nat.blt_eq.mp hid⟩
  refine Calls.mono (callsIn_wide.1 (callsIn_of_wp_marks (F:=Fence.wide) (n:=0) hf hb trivial (h b2 _ rfl (fun _ h=>h) (fun _ _ h=>h) hR))) fun e w' ⟨h1,h2⟩=>⟨v,h1,zCi hv1,h2⟩
theorem zIk{P:Program}{f g:FuncId}{fn:Func}{x0 x1 z:Code}{i4:Nat}{ops4:List Oper}{t:Tmp}{args:List V1}{v:Value}{n:Nat}{S1 S2:St}{Qz:Exit→St→Prop}(hv1:v.oneCell'=true)(hf:P.funcs[f]?=some fn)(hb:fn.body=some (.seq x0 (.seq x1 (.seq (.region i4 ops4.toArray false) z))))(hn:fn.ntmps=n)(hl:Nat.ble args.length n=true)
 (hA:AWp P x0 (fun e S'=>e=.normal∧AWp P x1 (fun e S'=>e=.normal∧Wk S' S1) S') (zBn n args [])) (h4:ADt P t g ops4.toArray ops4 S1 S2) (hz:DWp P t z Qz S2)
 (hfin:∀(b2:zJ) (a a':Act) (w:World) (u:Value) (ds:List Deferred) (e:Exit) (S:St),(∀b,¬b2.Y b)→(∀d b,¬b2.V d b)→Rel b2 S a w→Ins t u {target:=.fn (.func g) #[u],args:= #[]} ds a a'→Qz e S→bodyPostM Fence.wide 0 P fn (fun e w'=>e=.returned v∧Ext b2.w w') e a' w):ACalls P f args (.c (.p v)):=by
 subst hn;refine zPD hv1 hf hb (Nat.ble_eq.mp hl) fun b2 a hrd hY hV hR=> ?_
 refine wpIn_seq (wpIn_mono (hA.get b2 a _ hR) fun e a w ⟨S',h1,h2,h3⟩=> ?_);subst h2;refine wpIn_seq (wpIn_mono (h3.get b2 a w h1) fun e a w ⟨S',h1,h2,h3⟩=> ?_);subst h2;refine wpIn_seq (wpIn_region_lit (h4.get b2 a w _ hrd (h3 b2 a w h1) fun a a' w u ds h1 h2=> ?_));exact wpIn_mono (hz.get b2 a a' w u _ ds h1 h2) fun e a' w ⟨S,a,k1,k2,k3⟩=>hfin b2 a a' w u ds e S hY hV k1 k2 k3
end Go.AV
end
section
namespace Go.Proofs.YtpefnljgalpllaaGreat
open Go.RowKit Go.Flow Go.AV Go.Plain
theorem zS6(w:World):(Instr.typeAssert .nilIface 20 88 true).run Tryz.prog w=.ok (.tuple #[.agg #[],.bool false]) w:=by kernel_rfl
theorem zS7(w:World):(Instr.typeAssert (.iface 88 (.agg #[])) 20 88 true).run Tryz.prog w=.ok (.tuple #[.agg #[],.bool true]) w:=by kernel_rfl
theorem zQl(n:Nat)(p:Addr)(w:World):
 CallsDIn Fence.wide n Tryz.prog 37 #[.pointer (some p)] .returning w fun e u' w'=>e=.returned (.tuple #[])∧u'=.returning∧w'=w.alloc (.cells #[] 88):=by
 refine callsDIn_of_wpSIn Tryz.func37 rfl trivial fun c₀ cs hu=> ?_
 apply wpSIn_seq
 apply wpSIn_region
 simp[wpOpsSIn,go_sem,recoverD,hu,Tryz.ntmps37,Exit.thenS,zS6]
 apply wpSIn_seq
 apply wpSIn_region
 simp[wpOpsSIn,go_sem,Exit.thenS]
 refine wpSIn_cond (t:=false) (by simp[Act.eval,Array.replicate]) ?_
 simp only[Bool.false_eq_true,if_false]
 refine wpSIn_of_wpIn rfl (wpIn_skip ?_)
 cases c₀
 simp_all [bodyPostS,results,Tryz.results37]
abbrev zTM:Value:=.iface 88 (.agg #[])
theorem zQm(n b:Nat)(x:Value)(w:World)(hb:w.heap[b]?=some (.cells #[x] 36 (0,0))):
 CallsDIn Fence.wide n Tryz.prog 37 #[.pointer (some ⟨b,0,none⟩)] (.panicking zFl) w fun e u' w'=>e=.returned (.tuple #[])∧u'=.panicking [{v:=zTM,recovered:=true}]∧w'=(w.alloc (.cells #[] 88)).setCell ⟨b,0,none⟩ (.int .i64 62):=by
 refine callsDIn_of_wpSIn Tryz.func37 rfl trivial fun c₀ cs hu=> ?_
 have hlt:b<w.heap.size:=(Array.getElem?_eq_some_iff.1 hb).1;have hb2:(w.alloc (.cells #[] 88)).heap[b]?=some (.cells #[x] 36 (0,0)):=(Below.heap_alloc _ _ _ hlt).trans hb;have hc:(w.alloc (.cells #[] 88)).cell? ⟨b,0,none⟩=some x:=by simp[World.cell?,hb2]
 have hz:(w.alloc (.cells #[] 88)).frozen? ⟨b,0,none⟩=false:=by simp[World.frozen?,hb2]
 apply wpSIn_seq
 apply wpSIn_region
 simp[wpOpsSIn,go_sem,recoverD,hu,Tryz.ntmps37,Exit.thenS,zS7]
 apply wpSIn_seq
 apply wpSIn_region
 simp[wpOpsSIn,go_sem,Exit.thenS]
 refine wpSIn_cond (t:=true) (by simp[Act.eval,Array.replicate]) ?_
 simp only[if_true]
 apply wpSIn_region
 simp[wpOpsSIn,go_sem,hc,hz,bodyPostS,results,Tryz.results37]
abbrev chZ:St:=zC 20 [(4,.c (.pt 4 1 0 0))] [(4,bxE)] [4]
theorem zLA{b2:zJ}{a:Act}{w:World}(hY:∀b,¬b2.Y b)(hV:∀d b,¬b2.V d b)(hR:Rel b2 chZ a w):∃b,a.tmps.getD 4 undef=.pointer (some ⟨b,0,none⟩)∧w.heap[b]?=some (.cells #[.int .i64 0] 36 (0,0))∧b2.w.heap.size≤b∧Ext b2.w w∧Marks b2.w.heap.size a.defers w:=by
 obtain⟨σ,R⟩:=hR
 obtain⟨b,cap,cs,h1,h2,h3,h4,h5,-,h6⟩:=zDK R (R.sl 4 (.c (.pt 4 1 0 0)) rfl) (show chZ.h 4=some bxE from rfl) rfl (by decide)
 obtain⟨u,k1,k2⟩:=h6 0 (by decide) 0 (by decide)
 obtain rfl:u=.int .i64 0:=k2.2;have hcap:cap=1:=by
  rcases h1 with ⟨h,_⟩|⟨_,_,h⟩
  ·cases h
  ·exact h
 subst hcap;have hcs:cs= #[.int .i64 0]:=by
  have:cs.size=1:=h5
  apply Array.ext
  ·simpa using this
  ·intro i hi _
   obtain rfl:i=0:=by omega
   have:=(Array.getElem?_eq_some_iff.1 k1).2
   simpa using this
 subst hcs
 refine⟨b,by simpa using h2,h4,?_,R.ext.ext (Ext.refl _) (fun b hb=>(hb.elim (hY b) (hV _ b)).elim),R.df⟩
 refine(R.hp.new b ⟨4,_,by show some bxE≠none;simp,h3,h1.blk⟩).elim id fun h=>(hY b h).elim
theorem zQs(tmps:Array Value)(b:Nat)(n:Int)(w:World)(ht:tmps.getD 4 undef=.pointer (some ⟨b,0,none⟩))(hb:w.heap[b]?=some (.cells #[.int .i64 n] 36 (0,0))):(results Tryz.f14 tmps).run Tryz.prog w=.ok (.int .i64 n) w:=by
 have hc:w.cell? ⟨b,0,none⟩=some (.int .i64 n):=by simp[World.cell?,hb]
 obtain⟨ud,g1,g2⟩:=zFi zA (t:=36) rfl rfl
 rw[zEF,show(Tryz.f14).results= #[.cell 4 36]from rfl];have ht':tmps[4]?.getD undef=.pointer (some ⟨b,0,none⟩):=by rw[←Array.getD_eq_getD_getElem?];exact ht
 simp[zBH,ht',asAddr,Sem.run_bind,zF5 g1 g2 hc]
theorem zLC{b2:zJ}{tmps:Array Value}{b:Nat}{n:Int}(ht:tmps.getD 4 undef=.pointer (some ⟨b,0,none⟩))(ds:List Deferred)(w:World)(hm:Marks b2.w.heap.size ds w)(hb:w.heap[b]?=some (.cells #[.int .i64 n] 36 (0,0)))(hE:Ext b2.w w):
 LeavesInM Fence.wide 0 Tryz.prog Tryz.f14 tmps (fun e w'=>e=.returned (.int .i64 n)∧Ext b2.w w') ds .returning w:=by
 have:=zHc (P:=Tryz.prog) (fn:=Tryz.f14) (tmps:=tmps) (R:=fun e w'=>e=.returned (.int .i64 n)∧Ext b2.w w') (w0:=b2.w) (b:=b) (o:=.cells #[.int .i64 n] 36 (0,0)) (by simp) (u:=.returning) (by simp) (ds:= []) (tl:= []) (fun w _ hb hE=>⟨_,zQs tmps b n w ht hb,rfl,hE⟩) ds w (by rw[List.append_nil];exact hm) hb hE
 rwa [List.append_nil]at this
theorem zLD{b:Nat}(w:World):(invoke (.fn (.func 37) #[.pointer (some ⟨b,0,none⟩)]) #[]).run Tryz.prog w=.ok (.enter 37 #[.pointer (some ⟨b,0,none⟩)]) w:=
 enters_of Tryz.func37 xC rfl #[.pointer (some ⟨b,0,none⟩)] w
theorem zQr{b2:zJ}{a a':Act}{w:World}{u:Value}{ds:List Deferred}(hY:∀b,¬b2.Y b)(hV:∀d b,¬b2.V d b)(hR:Rel b2 chZ a w)(hi:Ins 4 u {target:=.fn (.func 37) #[u],args:= #[]} ds a a'):
 LeavesInM Fence.wide 0 Tryz.prog Tryz.f14 a'.tmps (fun e w'=>e=.returned (.int .i64 0)∧Ext b2.w w') a'.defers .returning w:=by
 obtain⟨b,h1,h2,h3,h4,h5⟩:=zLA hY hV hR
 obtain⟨i1,i2,pre,i3,i4⟩:=hi
 rw[i1,i4];rw[i3]at h5;have hu:u=.pointer (some ⟨b,0,none⟩):=i2.symm.trans h1;subst hu;refine zHc (w0:=b2.w) (b:=b) (o:=.cells #[.int .i64 0] 36 (0,0)) (by simp) (by simp) (ds:=ds) (fun w hm hb hE=> ?_) pre w h5 h2 h4
 refine⟨by simp,.inr ⟨(fun h=>by cases h),_,_,37,_,rfl,zLD w,fun _ _=>trivial,(zQl 0 ⟨b,0,none⟩ w).mono ?_⟩⟩
 rintro e u' w' ⟨rfl,rfl,rfl⟩
 have hlt:b<w.heap.size:=(Array.getElem?_eq_some_iff.1 hb).1;exact zLC h1 ds _ (hm.same fun D hD=>Below.heap_alloc _ _ _ (Array.getElem?_eq_some_iff.1 hD).1) ((Below.heap_alloc _ _ _ hlt).trans hb) (hE.alloc _)
theorem zLB{b2:zJ}{a a':Act}{w:World}{u:Value}{ds:List Deferred}(hY:∀b,¬b2.Y b)(hV:∀d b,¬b2.V d b)(hR:Rel b2 chZ a w)(hi:Ins 4 u {target:=.fn (.func 37) #[u],args:= #[]} ds a a'):
 LeavesInM Fence.wide 0 Tryz.prog Tryz.f14 a'.tmps (fun e w'=>e=.returned (.int .i64 62)∧Ext b2.w w') a'.defers (.panicking zFl) w:=by
 obtain⟨b,h1,h2,h3,h4,h5⟩:=zLA hY hV hR
 obtain⟨i1,i2,pre,i3,i4⟩:=hi
 rw[i1,i4];rw[i3]at h5;have hu:u=.pointer (some ⟨b,0,none⟩):=i2.symm.trans h1;subst hu;refine zHc (w0:=b2.w) (b:=b) (o:=.cells #[.int .i64 0] 36 (0,0)) (by simp) (by simp) (ds:=ds) (fun w hm hb hE=> ?_) pre w h5 h2 h4
 refine⟨by simp,.inr ⟨(fun h=>by cases h),_,_,37,_,rfl,zLD w,fun _ _=>trivial,(zQm 0 b _ w hb).mono ?_⟩⟩
 rintro e u' w' ⟨rfl,rfl,rfl⟩
 have hlt:b<w.heap.size:=(Array.getElem?_eq_some_iff.1 hb).1;have hb2:(w.alloc (.cells #[] 88)).heap[b]?=some (.cells #[.int .i64 0] 36 (0,0)):=(Below.heap_alloc _ _ _ hlt).trans hb;have hb3:((w.alloc (.cells #[] 88)).setCell ⟨b,0,none⟩ (.int .i64 62)).heap[b]?=some (.cells #[.int .i64 62] 36 (0,0)):=by
  simp[World.setCell,Array.getElem?_modify,hb2]
 refine zLC h1 ds _ (hm.same fun D hD=> ?_) hb3 ((hE.alloc _).setCell h3 _);have hne:D≠b:=fun e=>by subst e;rw[hD]at hb;cases hb
 exact(Below.heap_setCell _ _ _ _ hne).trans (Below.heap_alloc _ _ _ (Array.getElem?_eq_some_iff.1 hD).1)
abbrev ck2(p:Pb)(l:List Stp):St:=zC 20 [(1,.c (zAm l)),(2,.c (plP p)),(4,.c (.pt 4 1 0 0))] [(4,bxE)] [4]
theorem zH3(p:Pb)(hp:p.ok)(l:List Stp)(hl:l.length≤1000000):ACalls Tryz.prog 14 [.ag (pbC p),.c (zAm l)] (.c (iC (zDu p l))):=by
 have hC:=zFq p hp;have hfit:= @zEV p hp;unfold zDu
 obtain⟨e,he⟩:∃e,zAA p=e:=⟨_,rfl⟩
 rw[he]at hC hfit⊢;by_cases h0:e=0;rotate_left
 ·rw [if_neg h0]
  refine zH Tryz.func14 rfl rfl Tryz.ntmps14 rfl ?_
  repeat (first
   |refine vB [0,2,3] ?_
   | (refine rG 1 ?_
      refine vA ?_;refine xB Tryz.func27 hC ?_;refine vA ?_;refine aB ?_))
  refine⟨zC 20 [(4,.c (.pt 4 1 0 0))] [(4,⟨false,1,1,36,lF [iC e]⟩)] [4],[(4,⟨false,1,1,36,lF [iC e]⟩)],Wk.mk [(4,some 4)] rfl rfl rfl ?_ ?_,rfl,rfl,ARets.one (x:=.c _) (zCp zA rfl rfl rfl rfl rfl rfl)⟩
  ·exact zB
  ·exact⟨hSm,trivial⟩
 subst h0;rw[if_pos rfl]
 obtain⟨hF1,hF2⟩:=zMw p (hfit rfl) p.C.length [] l (Nat.zero_add _) (fun k hk=>absurd hk (Nat.not_lt_zero _)) hl
 cases hv:zBo p p.C.length [] l with
 | none =>
   rw[if_neg (by simp)];refine zIk (t:=4) (g:=37) (S1:=ck2 p l) (S2:=ck2 p l) (Qz:=fun e S=>e=.panic zFl∧Wk S chZ) rfl Tryz.func14 rfl Tryz.ntmps14 rfl ?_ ?_ ?_ ?_
   ·refine vB [0] ?_
    refine⟨rfl,?_⟩
    repeat (first
     |refine vB [2] ?_
     | (refine rG 1 ?_
        refine vA ?_;refine xB Tryz.func27 hC ?_;refine vA ?_;refine aB ?_))
    refine⟨rfl,Wk.mk [(4,some 4)] rfl rfl rfl ?_ ?_⟩
    ·repeat (first|exact trivial|refine⟨⟨_,rfl,by first|exact LeA.c (zBw rfl rfl rfl rfl)|exact leT⟩,?_⟩)
    ·exact⟨hSm,trivial⟩
   ·refine ADt.split 1 ?_
    refine qr5 zCQ ?_;refine aB ?_;refine ADt.defer rfl rfl rfl rfl (Wk.mk [(4,some 4)] rfl rfl rfl ?_ ?_)
    ·exact zB
    ·exact⟨hSm,trivial⟩
   ·have hdie:=hF2 hv
    refine DWp.seq (DWp.die rfl (fun _ h=>by cases h.1) ?_);refine ADie.split 4 ?_;refine xE4 ?_;refine aB ?_;refine ADie.weak (S':=zC 20 [(4,.c (.pt 4 1 0 0)),(14,.c (.pt 14 6 0 0)),(15,.c (zAm l))] [(4,bxE),(14,tbB p 30),(30,chI [])] [4,14,30]) (Wk.mk [(4,some 4),(14,some 14),(30,none)] rfl rfl rfl ?_ ?_) ?_
    ·exact zB
    ·exact⟨hSm,HeapOk.box rfl rfl ⟨LeC.refl _ rfl,LeC.refl _ rfl,LeC.refl _ rfl,LeC.refl _ rfl,LeC.refl _ rfl,LeC.nil _ rfl,trivial⟩ rfl,HeapOk.nil rfl rfl,trivial⟩
    refine ADie.call [14] [30] [] [tbB p 800] [chI []] [tbX p] [] [tbX p] [] rfl FnV.func rfl Tryz.func39 rfl xC (zCk 0 rfl rfl trivial) (⟨⟨_,rfl,rfl,fun _ _ _ _=>⟨rfl,rfl⟩⟩,trivial⟩) rfl (by exact⟨.c (.b (.pt 14 0 6 0 0 rfl)),.c (.b (.imm _ rfl)),trivial⟩) (zOj trivial) (trivial) (hdie) ?_
    refine⟨rfl,Wk.mk [(4,some 4)] rfl rfl rfl ?_ ?_⟩
    ·exact zB
    ·exact⟨hSm,trivial⟩
   ·intro b2 a a' w u ds e S hY hV hR hi ⟨h1,h2⟩
    subst h1;exact zLB hY hV (h2 b2 a w hR) hi
 | some x=>
   have hgo:=hF1 x hv;by_cases hx:x= []
   ·subst hx
    rw[if_pos rfl];refine zIk (t:=4) (g:=37) (S1:=ck2 p l) (S2:=ck2 p l) (Qz:=fun e S=>e=.ret∧Wk S chZ) rfl Tryz.func14 rfl Tryz.ntmps14 rfl ?_ ?_ ?_ ?_
    ·refine vB [0] ?_
     refine⟨rfl,?_⟩
     repeat (first
      |refine vB [2] ?_
      | (refine rG 1 ?_
         refine vA ?_;refine xB Tryz.func27 hC ?_;refine vA ?_;refine aB ?_))
     refine⟨rfl,Wk.mk [(4,some 4)] rfl rfl rfl ?_ ?_⟩
     ·repeat (first|exact trivial|refine⟨⟨_,rfl,by first|exact LeA.c (zBw rfl rfl rfl rfl)|exact leT⟩,?_⟩)
     ·exact⟨hSm,trivial⟩
    ·refine ADt.split 1 ?_
     refine qr5 zCQ ?_;refine aB ?_;refine ADt.defer rfl rfl rfl rfl (Wk.mk [(4,some 4)] rfl rfl rfl ?_ ?_)
     ·exact zB
     ·exact⟨hSm,trivial⟩
    ·refine DWp.seq (DWp.text rfl (fun _ h=>by cases h.1) ?_)
     refine AText.split 4 ?_;refine xE4 ?_;refine aB ?_;refine AText.weak (S':=zC 20 [(4,.c (.pt 4 1 0 0)),(14,.c (.pt 14 6 0 0)),(15,.c (zAm l))] [(4,bxE),(14,tbB p 30),(30,chI [])] [4,14,30]) (Wk.mk [(4,some 4),(14,some 14),(30,none)] rfl rfl rfl ?_ ?_) ?_
     ·exact zB
     ·exact⟨hSm,HeapOk.box rfl rfl ⟨LeC.refl _ rfl,LeC.refl _ rfl,LeC.refl _ rfl,LeC.refl _ rfl,LeC.refl _ rfl,LeC.nil _ rfl,trivial⟩ rfl,HeapOk.nil rfl rfl,trivial⟩
     refine AText.all ?_;refine zCv [14] [30] [31] [tbB p 800] [chI []] [tbB p 900] [chI []] [tbB p 31] [chI []] rfl rfl FnV.func rfl Tryz.func39 rfl xC (zCk 0 rfl rfl trivial) (⟨⟨_,rfl,rfl,fun _ _ _ _=>⟨rfl,rfl⟩⟩,trivial⟩) rfl (by exact⟨.c (.b (.pt 14 0 6 0 0 rfl)),.c (.b (.imm _ rfl)),trivial⟩) (.c (.imm _ rfl)) (zCC 0 rfl trivial) (⟨⟨_,rfl,fun _ _ _ _=>.imm _ rfl⟩,trivial⟩) (hgo) ?_;refine xE2 ?_;refine xB Tryz.func38 zEE ?_;refine aB ?_;refine DWp.seq (DWp.text rfl (fun _ h=>by cases h.1) ?_);refine AText.all ?_;refine vA ?_;refine aB ?_;refine DWp.ret ?_
     refine⟨rfl,Wk.mk [(4,some 4)] rfl rfl rfl ?_ ?_⟩
     ·exact zB
     ·exact⟨hSm,trivial⟩
    ·intro b2 a a' w u ds e S hY hV hR hi ⟨h1,h2⟩
     subst h1;exact zQr hY hV (h2 b2 a w hR) hi
   ·rw[if_neg (fun h=>hx (Option.some.inj h))]
    have hxl:¬(x.length:Int)=0:=fun h=>hx (List.eq_nil_of_length_eq_zero xD)
    refine zIk (t:=4) (g:=37) (S1:=ck2 p l) (S2:=ck2 p l) (Qz:=fun e S=>e=.panic zFl∧Wk S chZ) rfl Tryz.func14 rfl Tryz.ntmps14 rfl ?_ ?_ ?_ ?_
    ·refine vB [0] ?_
     refine⟨rfl,?_⟩
     repeat (first
      |refine vB [2] ?_
      | (refine rG 1 ?_
         refine vA ?_;refine xB Tryz.func27 hC ?_;refine vA ?_;refine aB ?_))
     refine⟨rfl,Wk.mk [(4,some 4)] rfl rfl rfl ?_ ?_⟩
     ·repeat (first|exact trivial|refine⟨⟨_,rfl,by first|exact LeA.c (zBw rfl rfl rfl rfl)|exact leT⟩,?_⟩)
     ·exact⟨hSm,trivial⟩
    ·refine ADt.split 1 ?_
     refine qr5 zCQ ?_;refine aB ?_;refine ADt.defer rfl rfl rfl rfl (Wk.mk [(4,some 4)] rfl rfl rfl ?_ ?_)
     ·exact zB
     ·exact⟨hSm,trivial⟩
    ·refine DWp.seq (DWp.die rfl (fun _ h=>by cases h.1) ?_)
     refine ADie.split 4 ?_;refine xE4 ?_;refine aB ?_;refine ADie.weak (S':=zC 20 [(4,.c (.pt 4 1 0 0)),(14,.c (.pt 14 6 0 0)),(15,.c (zAm l))] [(4,bxE),(14,tbB p 30),(30,chI [])] [4,14,30]) (Wk.mk [(4,some 4),(14,some 14),(30,none)] rfl rfl rfl ?_ ?_) ?_
     ·exact zB
     ·exact⟨hSm,HeapOk.box rfl rfl ⟨LeC.refl _ rfl,LeC.refl _ rfl,LeC.refl _ rfl,LeC.refl _ rfl,LeC.refl _ rfl,LeC.nil _ rfl,trivial⟩ rfl,HeapOk.nil rfl rfl,trivial⟩
     refine ADie.split 3 ?_;refine zCv [14] [30] [31] [tbB p 800] [chI []] [tbB p 900] [chI []] [tbB p 31] [chI []] rfl rfl FnV.func rfl Tryz.func39 rfl xC (zCk 0 rfl rfl trivial) (⟨⟨_,rfl,rfl,fun _ _ _ _=>⟨rfl,rfl⟩⟩,trivial⟩) rfl (by exact⟨.c (.b (.pt 14 0 6 0 0 rfl)),.c (.b (.imm _ rfl)),trivial⟩) (.c (.imm _ rfl)) (zCC 0 rfl trivial) (⟨⟨_,rfl,fun _ _ _ _=>.imm _ rfl⟩,trivial⟩) (hgo) ?_;refine xE2 ?_;refine aB ?_;refine ADie.call [] [] [] [] [] [] [] [] [] rfl FnV.func rfl Tryz.func38 rfl xC (trivial) (trivial) rfl (by exact⟨.c (.b (.imm _ rfl)),trivial⟩) (trivial) (trivial) (zC3) ?_
     refine⟨rfl,Wk.mk [(4,some 4)] rfl rfl rfl ?_ ?_⟩
     ·exact zB
     ·exact⟨hSm,trivial⟩
    ·intro b2 a a' w u ds e S hY hV hR hi ⟨h1,h2⟩
     subst h1;exact zLB hY hV (h2 b2 a w hR) hi
abbrev zAQ(k:Nat):Bp:=⟨6,5,30,fun j=>Nat.beq j k⟩
abbrev zDW(C:List (List Bp))(F:List Bp):Pb:=⟨[],C,F,C.map fun _=>bgZ,F.map fun _=>bgZ⟩
abbrev x29a:Pb:=zDW [[zAQ 0],[zAQ 0,zAQ 29],[zAQ 29]] []
abbrev x29b:Pb:=zDW [[zAQ 29],[zAQ 0]] [zAQ 0]
abbrev x29c:Pb:=zDW [[zAQ 0],[zAQ 29]] []
abbrev x29d:Pb:=zDW [[zAQ 0],[]] []
abbrev zEW:Cl:=⟨0,0,-4⟩
abbrev st29a:List Stp:= [zAP 0 0,⟨1,0,0,0,false,zEW⟩,zAP 1 1,⟨2,0,1,0,false,zEW⟩]
abbrev st29b:List Stp:= [zAP 0 0,⟨1,0,-1,0,false,zEW⟩]
abbrev st29d:List Stp:= [zAP 0 0]
def zEX(p:Pb):Nat→List Int→Bool
 |0,_=>false
 |m+1,ch=>(List.range (p.C.getD ch.length []).length).all fun c=> !(zBN p ch c).dp||zEX p m (ch++ [(c:Int)])
theorem zL2(p:Pb):∀(m:Nat) (ch:List Int),zEX p m ch=true→zFE p m ch
 |0,_,h=>by cases h
 | m+1,ch,h=>fun c hc hd=>by
   have:=List.all_eq_true.1 h c (List.mem_range.2 hc);rw[hd]at this;exact zL2 p m _ (by simpa using this)
theorem zTt:zBi x29a=([0,1,2],0):=by decide +kernel
theorem zTu:zBi x29b=([1],0):=by decide +kernel
theorem zTv:zBi x29c=([],7):=by decide +kernel
theorem zTw:zBi x29d=([1],0):=by decide +kernel
theorem zTx:zCt x29a=(st29a,0):=by decide +kernel
theorem zTy:zCt x29b=(st29b,0):=by decide +kernel
theorem zTz:zCt x29c=([],7):=by decide +kernel
theorem zTA:zCt x29d=(st29d,0):=by decide +kernel
theorem zTo:zDu x29a st29a=0:=by decide +kernel
theorem zTp:zDu x29a (st29a.take 3)=62:=by decide +kernel
theorem zTq:zEX x29a 3 []=true:=by decide +kernel
theorem zTr:zEX x29b 2 []=true:=by decide +kernel
theorem zTs:zEX x29d 2 []=true:=by decide +kernel
theorem zQJ(k i j:Nat)(hj:j<1):zAD (zF [.bool false]) k 0 1 [bC true] i j=bF (fun j=>Nat.beq j k) i j∧zK (zAD (zF [.bool false]) k 0 1 [bC true] i j)=true:=by
 obtain rfl:j=0:=by omega
 rw[zJG];by_cases h:i=k
 ·subst h
  rw[if_pos ⟨rfl,rfl⟩]
  exact⟨by show bC true=CV.p (.bool (Nat.beq i i));rw[Nat.beq_refl],rfl⟩
 ·rw[if_neg fun e=>h e.1]
  exact⟨by show bC false=CV.p (.bool (Nat.beq i k));rw[show Nat.beq i k=false from Bool.eq_false_iff.2 fun e=>h (Nat.eq_of_beq_eq_true e)],rfl⟩
theorem zL7(k:Nat)(hk:k<30):ACalls Tryz.prog 17 [.c (iC (k:Nat))] (.ag (bpC (zAQ k))):=by
 refine zH Tryz.func17 rfl rfl Tryz.ntmps17 rfl ?_
 repeat (first
  |refine vB [0,3] ?_
  | (refine rG 1 ?_
     refine zEC (zD6 zA) ?_;refine xE3 ?_;refine aB ?_)
  | (refine rG 2 ?_
     refine xE3 ?_;refine zM (zL (k:=k) zA) ?_;refine vA ?_;refine aB ?_))
 refine⟨zC 11 [(2,.c (.pt 2 3 0 0))] [(2,⟨false,1,3,53,lF (bpC (zAQ k))⟩)] [2],[(2,⟨false,1,3,53,lF (bpC (zAQ k))⟩)],Wk.mk [(2,some 2)] rfl rfl rfl ?_ ?_,rfl,rfl,ARets.one (x:=.ag _) (ARes.box zA rfl rfl rfl rfl rfl rfl rfl)⟩
 ·exact zB
 ·exact⟨HeapOk.box rfl rfl ⟨LeC.refl _ rfl,LeC.refl _ rfl,zAl rfl rfl rfl (fun i _ j hj=>zQJ k i j hj),trivial⟩ rfl,trivial⟩
theorem zOE{α:Type}(C:List α)(i j:Nat)(hj:j<4):zF [.int .i64 0,.int .i64 0,.int .i64 0,.int .i64 0] i j=zS bgC bgZ (C.map fun _=>bgZ) i j∧zK (zF [.int .i64 0,.int .i64 0,.int .i64 0,.int .i64 0] i j)=true:=by
 have h:(C.map fun _=>bgZ).getD i bgZ=bgZ:=by
  rw[List.getD_eq_getElem?_getD,List.getElem?_map]
  cases C[i]?<;>rfl
 unfold zS;rw[h]
 match j,hj with
 |0,_|1,_|2,_|3,_=>exact⟨rfl,rfl⟩
theorem zHq(C:List (List Bp))(F:List Bp)(hC:C.length≤1000)(hF:F.length≤1000):ACalls Tryz.prog 18 [.c (lsC C),.c (lsB F)] (.ag (pbC (zDW C F))):=by
 refine zH Tryz.func18 rfl rfl Tryz.ntmps18 rfl ?_
 repeat (first
  |refine vB [0] ?_
  |(refine AWp.draw (id:=1) zI ?_;refine xE4 ?_;refine zEC (zD6 zA) ?_;refine xE2 ?_;refine zEC (zD6 zA) ?_;refine xE2 ?_;refine aB ⟨by kernel_rfl,?_⟩))
 refine⟨zC 14 [(4,.c (.pt 4 5 0 0))] [(4,⟨false,1,5,29,lF (pbC (zDW C F))⟩)] [4],[(4,⟨false,1,5,29,lF (pbC (zDW C F))⟩)],Wk.mk [(4,some 4)] rfl rfl rfl ?_ ?_,rfl,rfl,ARets.one (x:=.ag _) (ARes.box zA rfl rfl rfl rfl rfl rfl rfl)⟩
 ·exact zB
 ·exact⟨HeapOk.box rfl rfl ⟨LeC.nils _ _,LeC.refl _ rfl,LeC.refl _ rfl,zAl rfl rfl (List.length_map ..) (fun i _ j hj=>zOE C i j hj),zAl rfl rfl (List.length_map ..) (fun i _ j hj=>zOE F i j hj),trivial⟩ rfl,trivial⟩
theorem zOb(n c:Int):ACalls Tryz.prog 19 [.ag (stC (zAP n c)),.c (iC n),.c (iC c),.c (iC 9)] (.c (bC true)):=by
 have hq:=zOa (zAP n c) (zAP n c);rw[decide_eq_true rfl]at hq;refine zH Tryz.func19 rfl rfl Tryz.ntmps19 rfl ?_
 repeat (first
  |refine vB [0,1] ?_
  | (refine rG 2 ?_
     refine xE4 ?_;refine zDq rfl rfl rfl rfl rfl rfl xC (hq) ?_;refine vA ?_;refine aB ?_))
 refine⟨zC 42 [(8,.c (bC true))] [] [],[],Wk.mk [] rfl rfl rfl ?_ trivial,rfl,rfl,aR1⟩
 exact zB
theorem zSU(nm sc wi rd n c w:Int)(cl:Cl)(h1:nm=n)(h2:sc=c)(h3:wi=w)(h4:rd=0)(hw:¬w=9):ACalls Tryz.prog 19 [.ag (stC ⟨nm,sc,wi,rd,false,cl⟩),.c (iC n),.c (iC c),.c (iC w)] (.c (bC true)):=by
 have e17:lF (stC ⟨nm,sc,wi,rd,false,cl⟩) 0 0=iC nm:=rfl;have e22:lF (stC ⟨nm,sc,wi,rd,false,cl⟩) 0 1=iC sc:=rfl;have e28:lF (stC ⟨nm,sc,wi,rd,false,cl⟩) 0 2=iC wi:=rfl;have e39:lF (stC ⟨nm,sc,wi,rd,false,cl⟩) 0 3=iC rd:=rfl;refine zH Tryz.func19 rfl rfl Tryz.ntmps19 rfl ?_
 repeat (first
  |refine vB [0,1] ?_
  | (refine rG 3 ?_
     refine vA ?_;refine zAY zA rfl rfl rfl rfl rfl rfl rfl oM oM (e17) ?_;refine xE4 ?_;refine zAY zA rfl rfl rfl rfl rfl rfl rfl oM oM (e22) ?_;refine xE5 ?_;refine zAY zA rfl rfl rfl rfl rfl rfl rfl oM oM (e28) ?_;refine zBu ?_;refine zAY zA rfl rfl rfl rfl rfl rfl rfl oM oM (e39) ?_;refine xE3 ?_;refine aB ?_))
 refine⟨zC 42 [(8,.c (bC true))] [] [],[],Wk.mk [] rfl rfl rfl ?_ trivial,rfl,rfl,aR1⟩
 exact zB
theorem zJP(n c w:Int)(cl:Cl)(hw:¬w=9):ACalls Tryz.prog 19 [.ag (stC ⟨n,c,w,0,false,cl⟩),.c (iC n),.c (iC c),.c (iC w)] (.c (bC true)):=zSU n c w 0 n c w cl rfl rfl rfl rfl hw
theorem zFZ{O:Nat→Prop}{w:World}{n sz:Nat}{F G:Nat→Nat→CV}{u:Value}(h:∀k,k<n→∀j,j<sz→F k j=G k j)(hu:RepI O w (.ls n sz F) u):RepI O w (.ls n sz G) u:=by
 obtain⟨A,cap,e1,e2,e3⟩:=hu
 exact⟨A,cap,e1,e2,fun k hk j hj=>by have:=e3 k hk j hj;rw[h k hk j hj]at this;exact this⟩
theorem zLm(a:Bp):∀k,k<1→∀j,j<3→sF (bpC a) 3 k j=zS bpC bpZ [a] k j:=fun k hk j hj=>by
 obtain rfl:k=0:=by omega
 match j,hj with
 |0,_|1,_|2,_=>rfl
theorem zQc(a b:Bp):∀k,k<2→∀j,j<3→sF (bpC a++bpC b) 3 k j=zS bpC bpZ [a,b] k j:=fun k hk j hj=>by
 obtain rfl|rfl:k=0∨k=1:=by omega
 all_goals
  match j,hj with
  |0,_|1,_|2,_=>rfl
end Go.Proofs.YtpefnljgalpllaaGreat
end
