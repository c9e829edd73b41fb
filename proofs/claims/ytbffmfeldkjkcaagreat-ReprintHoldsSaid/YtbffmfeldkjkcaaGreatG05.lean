/- Parts of the proof: AMem5, AMem6, AMem7, AMem8. -/
import Derived.Test.YtbffmfeldkjkcaaGreatG04
set_option linter.unusedSimpArgs false
set_option linter.unusedVariables false
set_option maxHeartbeats 0
section
namespace Go.AV
open Go Go.RowKit Go.Flow
section
variable{P:Program}{tab:List (TypeId×TD)}
theorem RepV.some_{σ:Nat→Option Value}{O:Nat→Prop}{w:World}{x:V1}{u:Value}(h:RepV (fun _=>none) O w x u):RepV σ O w x u:=
 h.keep ⟨rfl,rfl,rfl,Nat.le_refl _,fun _ _ _=>rfl⟩ (fun b hb=>.inl hb) fun i v h=>(by cases h)
theorem RepA.some_{σ:Nat→Option Value}{O:Nat→Prop}{w:World}{x:AV}{u:Value}(h:RepA (fun _=>none) O w x u):RepA σ O w x u:=
 h.keep ⟨rfl,rfl,rfl,Nat.le_refl _,fun _ _ _=>rfl⟩ (fun b hb=>.inl hb) fun i v h=>(by cases h)
def St.opds(S:St):List Operand→Option (List V1)
 | []=>some []
 | x ::r=>match S.opd x with
   | some (.c y)=>match St.opds S r with
     |some m=>some (.c y::m)
     |none=>none
   | some (.ag l)=>match St.opds S r with
     |some m=>some (.ag l::m)
     |none=>none
   |_=>none
theorem zCJ{S S1:St}:∀{xs:List Operand},(∀x∈xs,S1.opd x=S.opd x)→S1.opds xs=S.opds xs
 | [],_=>rfl
 |x::r,h=>by unfold St.opds;rw[h x (by simp),zCJ fun q hq=>h q (by simp[hq])]
theorem zBT{b0:zN}{σ:Nat→Option Value}{S1:St}{a:Act}{w:World}(R:Rel0 b0 σ S1 a w):∀{xs:List Operand} {l:List V1},S1.opds xs=some l→RepL (RepV σ (out b0 σ S1.h) w) l (xs.map a.eval)
 | [],l,h=>by cases h;trivial
 | x ::r,l,h=>by
   unfold St.opds at h
   cases hy:S1.opd x with
   |none=>rw[hy]at h;cases h
   | some y=>
     rw[hy]at h
     cases hm:S1.opds r with
     |none=>cases y<;>simp only[hm]at h<;>cases h
     | some m=>
       cases y with
       |c y=>simp only[hm]at h;cases h;exact⟨zW R hy,zBT R hm⟩
       |ag y=>simp only[hm]at h;cases h;exact⟨zW R hy,zBT R hm⟩
       |tu y=>cases h
theorem zJG{σ:Nat→Option Value}{O:Nat→Prop}{w:World}{x:V1}{u:Value}(hi:zDx x=true)(hx:RepV σ O w x u):RepV (fun _=>none) O w x u:=by
 have one:∀{x:CV} {u:Value},zM x=true→RepC σ O w x u→RepC (fun _=>none) O w x u:=fun hi hx=>zBF hi hx.1 (zBo hi hx)
 cases x with
 |c x=>exact one hi hx
 | ag l=>
   obtain⟨vs,e,hl⟩:=hx
   refine⟨vs,e,zA5 hl.length fun i x v h1 h2=> ?_⟩
   obtain⟨v',e1,e2⟩:=hl.get h1
   rw[h2]at e1
   cases e1
   exact one (List.all_eq_true.1 hi _ (List.mem_of_getElem? h1)) e2
theorem ACalls.at{f:FuncId}{args:List V1}{r:AV}(h:ACalls P f args r){b0:zN}{σ:Nat→Option Value}{S:St}{a:Act}{w:World}(R:Rel0 b0 σ S a w){vals:List Value}(hv:RepL (RepV σ (out b0 σ S.h) w) args vals)(hi:args.all zDx=true):
 Calls P f vals.toArray w fun e w'=>∃v,e=.returned v∧RepA σ (out b0 σ S.h) w' r v∧Ext w w':=by
 have hO:∀b,out ⟨w,out b0 σ S.h,fun _=>False,fun _=>none,fun b hb=>zDh R hb,fun b hb=>hb.elim,fun b _ h=>h,fun i v h=>(by cases h),fun _ _=>False,fun _ _ _=>True,none,fun _ _ h=>h.elim,fun _ _ _ _ _ _ _ _=>trivial⟩ (fun _=>none) (zD []) b↔out b0 σ S.h b:=fun b=>⟨fun hb=>hb.elim (fun ⟨i,v,h1,_⟩=>absurd rfl h1) fun h=>h,fun hb=>.inr hb⟩
 refine(h ⟨w,out b0 σ S.h,fun _=>False,fun _=>none,fun b hb=>zDh R hb,fun b hb=>hb.elim,fun b _ h=>h,fun i v h=>(by cases h),fun _ _=>False,fun _ _ _=>True,none,fun _ _ h=>h.elim,fun _ _ _ _ _ _ _ _=>trivial⟩ vals
  ⟨fun i B hB=>(by cases hB),fun i j v1 v2 b hi=>absurd rfl hi,fun b ⟨i,v,h1,_⟩=>absurd rfl h1,fun i v h=>(by cases h),fun _ _ _=>rfl⟩ (fun i v h=>by cases h) (fun b hb=>hb.elim)
  (zA5 hv.length fun i x v h1 h2=>by
    obtain⟨v',e1,e2⟩:=hv.get h1
    rw[h2]at e1
    cases e1
    exact(zJG (List.all_eq_true.1 hi _ (List.mem_of_getElem? h1)) e2).keep ⟨rfl,rfl,rfl,Nat.le_refl _,fun _ _ _=>rfl⟩ (fun b hb=>.inl ((hO b).1 hb)) fun _ _ h=>h)).mono fun e w' ⟨v,h1,h2,h3,h4⟩=>⟨v,h1,?_,⟨h4.os,h4.tape,h4.output,h4.size,fun k hk=>h4.block k hk fun h=>h⟩⟩
 exact(h2.keep ⟨rfl,rfl,rfl,Nat.le_refl _,fun _ _ _=>rfl⟩ (fun b hb=>.inl ((hO b).2 hb)) fun _ _ h=>h).some_

section ops
variable{ops:Array Oper}{rest:List Oper}{acc:List (List Nat×List Nat)}{S:St}{Q:List (List Nat×List Nat)→St→Prop}{dst:Option Tmp}{ty:TypeId}{pos:String}{after:Array Edge}{guard:Option (Nat×Bool)}
theorem AList.call{f:FuncId}{fn:Func}{xs:Array Operand}{ats:Array TypeId}{args:List V1}{r:AV}(hw:S.wants ops {dst,op:=.call {callee:=.value (.func f),args:=xs,argTypes:=ats},type:=ty,pos,after,guard}=some true)(hd:dOk S.n dst=true)
 (ha:S.opds xs.toList=some args) (hi:args.all zDx=true) (hf:P.funcs[f]?=some fn) (hb:fn.body.isNone=false) (hnm:(fn.name== "runtime.NumGoroutine")=false) (hc:ACalls P f args r)
 (hn:AList P ops rest (([],[])::acc) (S.eff dst ⟨r,[],[]⟩) Q):AList P ops ({dst,op:=.call {callee:=.value (.func f),args:=xs,argTypes:=ats},type:=ty,pos,after,guard}::rest) acc S Q:=
 AList.ext [] _ hw hd (fun S1 h1 _ b0 σ a w R=>by
  have h2:S1.opds xs.toList=some args:=(zCJ fun x hx=>h1 x (by simp only[Op.operands,Call.operands];simp;exact .inr (by simpa using hx))).trans ha
  have:=hc.at R (zBT R h2) hi;rw[zCc f fn hf hb hnm #[] #[] rfl w]
  simp only[Goes]
  rw[show(#[]++xs.map a.eval++ #[]:Array Value)=(xs.toList.map a.eval).toArray from Array.ext' (by simp)];exact this.mono fun e w' ⟨v,g1,g2,g3⟩=>⟨v,g1,g2,g3⟩) hn
theorem zKk{x:Operand}{y:CV}(hw:S.wants ops {dst,op:=.nilCheck x,type:=ty,pos,after,guard}=some true)(hd:dOk S.n dst=true)(hx:S.opd x=some (.c y))(hp:(match y with| .pt .. | .pl .. =>true|_=>false)=true)
 (hn:AList P ops rest (([],[])::acc) (S.eff dst ⟨.c y,[],[]⟩) Q):AList P ops ({dst,op:=.nilCheck x,type:=ty,pos,after,guard}::rest) acc S Q:=
 AList.val [] _ hw hd (fun S1 h1 _ b0 σ a w R=>by
  have hr:=zW R ((h1 x (by simp[Op.operands])).trans hx)
  refine⟨a.eval x,?_,hr⟩
  cases y with
  |pt id sz k j=>obtain⟨-,v,b,e1,e2,e3⟩:=hr;simp only[execOp,e3,Sem.run_pure]
  |pl n sz F k j=>obtain⟨-,ad,e1,e2⟩:=hr;simp only[execOp,e1,Sem.run_pure]
  |_=>cases hp) hn
theorem AList.cut(T:zAq P tab=true){t el:TypeId}{x:Operand}{lo hi:Option Operand}{n sz l h:Nat}{F:Nat→Nat→CV}{d e:TD}(hw:S.wants ops {dst,op:=.slice t x lo hi none,type:=ty,pos,after,guard}=some true)(hd:dOk S.n dst=true)
 (hx:S.opd x=some (.c (.ls n sz F))) (ht:zD tab t=some d) (hk:d.k=.sl el) (he:zD tab el=some e) (hs:e.size=sz)
 (hlo:match lo with|none=>l=0|some y=>∃k i,S.opd y=some (.c (.p (.int k i)))∧i=(l:Int)) (hhi:match hi with|none=>h=n|some y=>∃k i,S.opd y=some (.c (.p (.int k i)))∧i=(h:Int)) (h1:l≤h) (h2:h≤n)
 (hn:AList P ops rest (([],[])::acc) (S.eff dst ⟨.c (.ls (h-l) sz fun k j=>F (l+k) j),[],[]⟩) Q):AList P ops ({dst,op:=.slice t x lo hi none,type:=ty,pos,after,guard}::rest) acc S Q:=
 AList.val [] _ hw hd (fun S1 g1 _ b0 σ a w R=>by
  obtain⟨-,A,cap,e1,e0,e2⟩:=zW R ((g1 x (by simp[Op.operands])).trans hx)
  obtain⟨inf,z,u,i1,i2,i3,-⟩:=zAS T he
  have hu:=zBL T ht hk
  refine⟨.slice (if cap=l then A else A.map (·.add (l*sz))) (h-l) (cap-l),?_,rfl,_,_,rfl,by omega,fun k hk j hj=> ?_⟩
  ·have elo:∀y,lo=some y→∃k,a.eval y=.int k l:=fun y hy=>by
    subst hy
    obtain⟨k,i,f1,f2⟩:=hlo
    exact⟨k,by rw[←f2];exact zAU (zW R ((g1 y (by simp[Op.operands])).trans f1))⟩
   have ehi:∀y,hi=some y→∃k,a.eval y=.int k h:=fun y hy=>by
    subst hy
    obtain⟨k,i,f1,f2⟩:=hhi
    exact⟨k,by rw[←f2];exact zAU (zW R ((g1 y (by simp[Op.operands])).trans f1))⟩
   have c1:(h:Int)≤cap:=by omega
   have c2:(l:Int)≤h:=by omega
   have c3:h≤cap:=by omega
   have c4:¬cap<h:=by omega
   have c5:¬h<l:=by omega
   cases lo with
   | none=>
     have hl0:l=0:=hlo;subst hl0
     cases hi with
     | none=>
       have hh:h=n:=hhi;subst hh
       simp[execOp,Instr.sliceAt,Instr.slice,run_underlying hu,e1,Instr.sliceBounds,sizeOf,typeInfo,i1,i2,hs]
     | some y=>
       obtain⟨k,f⟩:=ehi y rfl
       simp[execOp,Instr.sliceAt,Instr.slice,run_underlying hu,e1,Instr.sliceBounds,Instr.sliceBound,asIntOf,f,sizeOf,typeInfo,i1,i2,hs,c1,c3,c4,h1]
   | some yl=>
     obtain⟨kl,fl⟩:=elo yl rfl
     cases hi with
     | none=>
       have hh:h=n:=hhi;subst hh
       simp[execOp,Instr.sliceAt,Instr.slice,run_underlying hu,e1,Instr.sliceBounds,Instr.sliceBound,asIntOf,fl,sizeOf,typeInfo,i1,i2,hs,c2,c5,h1]
     | some y=>
       obtain⟨k,f⟩:=ehi y rfl
       simp[execOp,Instr.sliceAt,Instr.slice,run_underlying hu,e1,Instr.sliceBounds,Instr.sliceBound,asIntOf,f,fl,sizeOf,typeInfo,i1,i2,hs,c1,c2,c3,c4,c5,h1]
  ·obtain⟨ad,v,r1,r2,r3,r4,r5⟩:=e2 (l+k) (by omega) j hj
   subst r1
   refine⟨ad.add (l*sz),v,by rw[if_neg (by omega)];rfl,by rw[zBu];exact r2,?_,r4,r5⟩
   rw[zFr,←Nat.add_assoc,←Nat.add_mul];exact r3) hn

variable{x y:Operand}{xt yt:TypeId}{i j:Int}
theorem AList.add(hw:S.wants ops {dst,op:=.binOp .add xt x y yt,type:=ty,pos,after,guard}=some true)(hd:dOk S.n dst=true)(hx:S.opd x=some (.c (.p (.int .i64 i))))(hy:S.opd y=some (.c (.p (.int .i64 j))))(h1:-9223372036854775808≤i+j)(h2:i+j≤9223372036854775807)
 (hn:AList P ops rest (([],[])::acc) (S.eff dst ⟨.c (.p (.int .i64 (i+j))),[],[]⟩) Q):AList P ops ({dst,op:=.binOp .add xt x y yt,type:=ty,pos,after,guard}::rest) acc S Q:=
 zCo hw hd hx hy rfl (fun w=>by rw[←show IntKind.i64.wrap (i+j)=i+j by rw[IntKind.wrap_i64];omega];rfl) rfl hn
theorem AList.sub(hw:S.wants ops {dst,op:=.binOp .sub xt x y yt,type:=ty,pos,after,guard}=some true)(hd:dOk S.n dst=true)(hx:S.opd x=some (.c (.p (.int .i64 i))))(hy:S.opd y=some (.c (.p (.int .i64 j))))(h1:-9223372036854775808≤i-j)(h2:i-j≤9223372036854775807)
 (hn:AList P ops rest (([],[])::acc) (S.eff dst ⟨.c (.p (.int .i64 (i-j))),[],[]⟩) Q):AList P ops ({dst,op:=.binOp .sub xt x y yt,type:=ty,pos,after,guard}::rest) acc S Q:=
 zCo hw hd hx hy rfl (fun w=>by rw[←show IntKind.i64.wrap (i-j)=i-j by rw[IntKind.wrap_i64];omega];rfl) rfl hn
theorem AList.mul(hw:S.wants ops {dst,op:=.binOp .mul xt x y yt,type:=ty,pos,after,guard}=some true)(hd:dOk S.n dst=true)(hx:S.opd x=some (.c (.p (.int .i64 i))))(hy:S.opd y=some (.c (.p (.int .i64 j))))(h1:-9223372036854775808≤i*j)(h2:i*j≤9223372036854775807)
 (hn:AList P ops rest (([],[])::acc) (S.eff dst ⟨.c (.p (.int .i64 (i*j))),[],[]⟩) Q):AList P ops ({dst,op:=.binOp .mul xt x y yt,type:=ty,pos,after,guard}::rest) acc S Q:=
 zCo hw hd hx hy rfl (fun w=>by rw[←show IntKind.i64.wrap (i*j)=i*j by rw[IntKind.wrap_i64];omega];rfl) rfl hn
theorem AList.quo(hw:S.wants ops {dst,op:=.binOp .quo xt x y yt,type:=ty,pos,after,guard}=some true)(hd:dOk S.n dst=true)(hx:S.opd x=some (.c (.p (.int .i64 i))))(hy:S.opd y=some (.c (.p (.int .i64 j))))(h1:0≤i)(h2:i≤9223372036854775807)(h3:0<j)
 (hn:AList P ops rest (([],[])::acc) (S.eff dst ⟨.c (.p (.int .i64 (i/j))),[],[]⟩) Q):AList P ops ({dst,op:=.binOp .quo xt x y yt,type:=ty,pos,after,guard}::rest) acc S Q:=
 zCo hw hd hx hy rfl (fun w=>by
  have e1:i.tdiv j=i/j:=Int.tdiv_eq_ediv_of_nonneg h1;have e2:IntKind.i64.wrap (i/j)=i/j:=by
   rw[IntKind.wrap_i64];have:=Int.ediv_nonneg h1 (show 0≤j by omega);have:=Int.ediv_le_self j h1
   omega
  have e3:¬j=0:=by omega
  simp[binOp,Op.intDiv,e1,e2,e3]) rfl hn
theorem zHK(hw:S.wants ops {dst,op:=.binOp .quo xt x y yt,type:=ty,pos,after,guard}=some true)(hd:dOk S.n dst=true)(hx:S.opd x=some (.c (.p (.int .i64 i))))(hy:S.opd y=some (.c (.p (.int .i64 j))))(h1:-9223372036854775808≤i)(h2:i≤9223372036854775807)(h3:1<j)
 (hn:AList P ops rest (([],[])::acc) (S.eff dst ⟨.c (.p (.int .i64 (i.tdiv j))),[],[]⟩) Q):AList P ops ({dst,op:=.binOp .quo xt x y yt,type:=ty,pos,after,guard}::rest) acc S Q:=
 zCo hw hd hx hy rfl (fun w=>by
  have e2:IntKind.i64.wrap (i.tdiv j)=i.tdiv j:=by
   rw[IntKind.wrap_i64];have hb:(i.tdiv j).natAbs≤i.natAbs/2:=by rw[Int.natAbs_tdiv];exact Nat.div_le_div_left (by omega) (by decide)
   omega
  have e3:¬j=0:=by omega
  simp[binOp,Op.intDiv,e2,e3]) rfl hn
theorem zKr(hw:S.wants ops {dst,op:=.binOp .rem xt x y yt,type:=ty,pos,after,guard}=some true)(hd:dOk S.n dst=true)(hx:S.opd x=some (.c (.p (.int .i64 i))))(hy:S.opd y=some (.c (.p (.int .i64 j))))(h3:0<j)
 (hn:AList P ops rest (([],[])::acc) (S.eff dst ⟨.c (.p (.int .i64 (i.tmod j))),[],[]⟩) Q):AList P ops ({dst,op:=.binOp .rem xt x y yt,type:=ty,pos,after,guard}::rest) acc S Q:=
 zCo hw hd hx hy rfl (fun w=>by
  have e3:¬j=0:=by omega
  simp[binOp,Op.intDiv,e3]) rfl hn
theorem AList.rem(hw:S.wants ops {dst,op:=.binOp .rem xt x y yt,type:=ty,pos,after,guard}=some true)(hd:dOk S.n dst=true)(hx:S.opd x=some (.c (.p (.int .i64 i))))(hy:S.opd y=some (.c (.p (.int .i64 j))))(h1:0≤i)(h3:0<j)
 (hn:AList P ops rest (([],[])::acc) (S.eff dst ⟨.c (.p (.int .i64 (i%j))),[],[]⟩) Q):AList P ops ({dst,op:=.binOp .rem xt x y yt,type:=ty,pos,after,guard}::rest) acc S Q:=
 zCo hw hd hx hy rfl (fun w=>by
  have e1:i.tmod j=i%j:=Int.tmod_eq_emod_of_nonneg h1;have e3:¬j=0:=by omega
  simp[binOp,Op.intDiv,e1,e3]) rfl hn
def zBs(op:BinOp)(i j:Int):Bool:=
 match op with
 | .lss=>decide (i<j)
 | .leq=>decide (i≤j)
 | .gtr=>decide (j<i)
 | .geq=>decide (j≤i)
 | .eql=>decide (i=j)
 |_=> !decide (i=j)
def zG4:BinOp→Bool
 | .lss| .leq| .gtr| .geq| .eql| .neq=>true
 |_=>false
theorem zFh{op:BinOp}{k:IntKind}(hw:S.wants ops {dst,op:=.binOp op xt x y yt,type:=ty,pos,after,guard}=some true)(hd:dOk S.n dst=true)(ho:zG4 op=true)(hx:S.opd x=some (.c (.p (.int k i))))(hy:S.opd y=some (.c (.p (.int k j))))
 (hn:AList P ops rest (([],[])::acc) (S.eff dst ⟨.c (.p (.bool (zBs op i j))),[],[]⟩) Q):AList P ops ({dst,op:=.binOp op xt x y yt,type:=ty,pos,after,guard}::rest) acc S Q:=
 zCo hw hd hx hy rfl (fun w=>by
  cases op<;>first|(simp[binOp,Op.intCmp,zBs];done)|cases ho|skip
  ·by_cases h:i=j<;>simp[binOp,Op.intCmp,zBs,h]
  ·by_cases h:i=j<;>simp[binOp,Op.intCmp,zBs,h]) rfl hn
theorem oM{P:Prop}(h:P:=by first|omega|(dsimp only;omega)|exact of_decide_eq_true rfl|(simp;done)|(simp;omega)):P:=h
theorem cmT{P:Prop}(h:P:=by unfold zBs;simp only[decide_eq_true_eq,Bool.not_eq_true',decide_eq_false_iff_not];omega):P:=h
theorem cmF{P:Prop}(h:P:=by unfold zBs;simp only[decide_eq_false_iff_not,Bool.not_eq_false',decide_eq_true_eq];omega):P:=h
theorem zJ5{op:BinOp}{k:IntKind}(hw:S.wants ops {dst,op:=.binOp op xt x y yt,type:=ty,pos,after,guard}=some true)(hd:dOk S.n dst=true)(ho:zG4 op=true)(hx:S.opd x=some (.c (.p (.int k i))))(hy:S.opd y=some (.c (.p (.int k j))))(hc:zBs op i j=true)
 (hn:AList P ops rest (([],[])::acc) (S.eff dst ⟨.c (.p (.bool true)),[],[]⟩) Q):AList P ops ({dst,op:=.binOp op xt x y yt,type:=ty,pos,after,guard}::rest) acc S Q:=
 zFh hw hd ho hx hy (by rw[hc];exact hn)
theorem zJ4{op:BinOp}{k:IntKind}(hw:S.wants ops {dst,op:=.binOp op xt x y yt,type:=ty,pos,after,guard}=some true)(hd:dOk S.n dst=true)(ho:zG4 op=true)(hx:S.opd x=some (.c (.p (.int k i))))(hy:S.opd y=some (.c (.p (.int k j))))(hc:zBs op i j=false)
 (hn:AList P ops rest (([],[])::acc) (S.eff dst ⟨.c (.p (.bool false)),[],[]⟩) Q):AList P ops ({dst,op:=.binOp op xt x y yt,type:=ty,pos,after,guard}::rest) acc S Q:=
 zFh hw hd ho hx hy (by rw[hc];exact hn)
theorem AList.nil(h:Q acc.reverse S):AList P ops [] acc S Q:=⟨h⟩
theorem zKl{b:Bool}(hw:S.wants ops {dst,op:=.unOp .not xt x,type:=ty,pos,after,guard}=some true)(hd:dOk S.n dst=true)(hx:S.opd x=some (.c (.p (.bool b))))
 (hn:AList P ops rest (([],[])::acc) (S.eff dst ⟨.c (.p (.bool !b)),[],[]⟩) Q):AList P ops ({dst,op:=.unOp .not xt x,type:=ty,pos,after,guard}::rest) acc S Q:=
 zHM hw hd hx (fun w=>rfl) rfl hn
theorem AList.neg(hw:S.wants ops {dst,op:=.unOp .neg xt x,type:=ty,pos,after,guard}=some true)(hd:dOk S.n dst=true)(hx:S.opd x=some (.c (.p (.int .i64 i))))(h1:-9223372036854775807≤i)(h2:i≤9223372036854775807)
 (hn:AList P ops rest (([],[])::acc) (S.eff dst ⟨.c (.p (.int .i64 (-i))),[],[]⟩) Q):AList P ops ({dst,op:=.unOp .neg xt x,type:=ty,pos,after,guard}::rest) acc S Q:=
 zHM hw hd hx (fun w=>by
  have e:IntKind.i64.wrap (-i) = -i:=by rw[IntKind.wrap_i64];omega
  simp[Op.unary,Op.intArith,e]) rfl hn
theorem zKh{k:IntKind}{ats:Array TypeId}(hw:S.wants ops {dst,op:=.call {callee:=.builtin .max,args:= #[x,y],argTypes:=ats},type:=ty,pos,after,guard}=some true)(hd:dOk S.n dst=true)(hx:S.opd x=some (.c (.p (.int k i))))(hy:S.opd y=some (.c (.p (.int k j))))
 (hn:AList P ops rest (([],[])::acc) (S.eff dst ⟨.c (.p (.int k (max i j))),[],[]⟩) Q):AList P ops ({dst,op:=.call {callee:=.builtin .max,args:= #[x,y],argTypes:=ats},type:=ty,pos,after,guard}::rest) acc S Q:=
 AList.val [] _ hw hd (fun S1 h1 _ b0 σ a w R=>by
  have e1:=zAU (zW R ((h1 x (by simp[Op.operands,Call.operands])).trans hx));have e2:=zAU (zW R ((h1 y (by simp[Op.operands,Call.operands])).trans hy))
  refine⟨.int k (max i j),?_,zCb rfl⟩
  simp only[execOp,resolve,invoke,builtin,Sem.run_bind,Sem.run_pure,Result.andThen_ok,List.map_toArray,List.map_cons,List.map_nil,e1,e2,Builtin.max_,List.foldlM_cons,List.foldlM_nil,Builtin.max2]
  rw[show(if j>i then j else i)=max i j by split<;>omega]) hn
theorem zKi{k:IntKind}{ats:Array TypeId}(hw:S.wants ops {dst,op:=.call {callee:=.builtin .min,args:= #[x,y],argTypes:=ats},type:=ty,pos,after,guard}=some true)(hd:dOk S.n dst=true)(hx:S.opd x=some (.c (.p (.int k i))))(hy:S.opd y=some (.c (.p (.int k j))))
 (hn:AList P ops rest (([],[])::acc) (S.eff dst ⟨.c (.p (.int k (min i j))),[],[]⟩) Q):AList P ops ({dst,op:=.call {callee:=.builtin .min,args:= #[x,y],argTypes:=ats},type:=ty,pos,after,guard}::rest) acc S Q:=
 AList.val [] _ hw hd (fun S1 h1 _ b0 σ a w R=>by
  have e1:=zAU (zW R ((h1 x (by simp[Op.operands,Call.operands])).trans hx));have e2:=zAU (zW R ((h1 y (by simp[Op.operands,Call.operands])).trans hy))
  refine⟨.int k (min i j),?_,zCb rfl⟩
  simp only[execOp,resolve,invoke,builtin,Sem.run_bind,Sem.run_pure,Result.andThen_ok,List.map_toArray,List.map_cons,List.map_nil,e1,e2,Builtin.min_,List.foldlM_cons,List.foldlM_nil,Builtin.min2]
  rw[show(if j<i then j else i)=min i j by split<;>omega]) hn
theorem zBb(T:zAq P tab=true){id id1:Nat}{s:Operand}{t el:TypeId}{d e:TD}{n m:Nat}{F G:Nat→Nat→CV}
 (hw:S.wants ops {dst:=some id,op:=.call {callee:=.builtin .append,args:= #[s,x],argTypes:= #[t,t]},type:=ty,pos,after,guard}=some true) (hd:dOk S.n (some id)=true) (hf:S.fr id=true)
 (hs:S.opd s=some (.c (.ow id1))) (hx:S.opd x=some (.c (.ls m e.size G))) (ht:zD tab t=some d) (hk:d.k=.sl el) (he:zD tab el=some e) (hh:S.h id1=some ⟨true,n,e.size,el,F⟩) (hsz:(Nat.blt 0 e.size && Nat.blt id1 1000)=true)
 (h63:n+m≤4611686018427387904) (hb:(n+m)*e.bytes≤140737488355328)
 (hn:AList P ops rest (([id1,id],[id1,id,id])::acc) (S.eff (some id) ⟨.c (.ow id),[(id1,none),(id,some ⟨true,n+m,e.size,el,zAj F n G⟩)],[id]⟩) Q):
 AList P ops ({dst:=some id,op:=.call {callee:=.builtin .append,args:= #[s,x],argTypes:= #[t,t]},type:=ty,pos,after,guard}::rest) acc S Q:=
 AList.app T (o:=some id1) (F:=F) (G:=G) [] hw hd hf hs hx ht hk he (Nat.blt_eq.mp (Bool.and_eq_true_iff.1 hsz).1) (.inr ⟨id1,rfl,rfl,hh,Nat.blt_eq.mp (Bool.and_eq_true_iff.1 hsz).2⟩) (fun S1 _ b0 σ a w R u hu=>zE2 hu) h63 hb hn
theorem zGq(T:zAq P tab=true){id id1 id2:Nat}{s:Operand}{t el:TypeId}{d e:TD}{n m:Nat}{F G:Nat→Nat→CV}
 (hw:S.wants ops {dst:=some id,op:=.call {callee:=.builtin .append,args:= #[s,x],argTypes:= #[t,t]},type:=ty,pos,after,guard}=some true) (hd:dOk S.n (some id)=true) (hf:S.fr id=true)
 (hs:S.opd s=some (.c (.ow id1))) (hx:S.opd x=some (.c (.ow id2))) (ht:zD tab t=some d) (hk:d.k=.sl el) (he:zD tab el=some e) (hh:S.h id1=some ⟨true,n,e.size,el,F⟩) (hh2:S.h id2=some ⟨true,m,e.size,el,G⟩) (hsz:(Nat.blt 0 e.size && Nat.blt id1 1000)=true)
 (h63:n+m≤4611686018427387904) (hb:(n+m)*e.bytes≤140737488355328)
 (hn:AList P ops rest (([id1,id2,id],[id1,id,id])::acc) (S.eff (some id) ⟨.c (.ow id),[(id1,none),(id,some ⟨true,n+m,e.size,el,zAj F n G⟩)],[id]⟩) Q):
 AList P ops ({dst:=some id,op:=.call {callee:=.builtin .append,args:= #[s,x],argTypes:= #[t,t]},type:=ty,pos,after,guard}::rest) acc S Q:=
 AList.app T (o:=some id1) (F:=F) (G:=G) [id2] hw hd hf hs hx ht hk he (Nat.blt_eq.mp (Bool.and_eq_true_iff.1 hsz).1) (.inr ⟨id1,rfl,rfl,hh,Nat.blt_eq.mp (Bool.and_eq_true_iff.1 hsz).2⟩) (fun S1 hr b0 σ a w R u hu=>zR9 R hu ((hr id2 (by simp)).trans hh2) rfl) h63 hb hn
theorem zOm(T:zAq P tab=true){id:Nat}{s:Operand}{t el:TypeId}{d e:TD}{m:Nat}{G:Nat→Nat→CV}
 (hw:S.wants ops {dst:=some id,op:=.call {callee:=.builtin .append,args:= #[s,x],argTypes:= #[t,t]},type:=ty,pos,after,guard}=some true) (hd:dOk S.n (some id)=true) (hf:S.fr id=true)
 (hs:S.opd s=some (.c (.p (.slice none 0 0)))) (hx:S.opd x=some (.c (.ls m e.size G))) (ht:zD tab t=some d) (hk:d.k=.sl el) (he:zD tab el=some e) (hsz:Nat.blt 0 e.size=true)
 (h63:m≤4611686018427387904) (hb:m*e.bytes≤140737488355328)
 (hn:AList P ops rest (([id],[id,id])::acc) (S.eff (some id) ⟨.c (.ow id),[(id,some ⟨true,m,e.size,el,G⟩)],[id]⟩) Q):
 AList P ops ({dst:=some id,op:=.call {callee:=.builtin .append,args:= #[s,x],argTypes:= #[t,t]},type:=ty,pos,after,guard}::rest) acc S Q:=
 AList.app T (o:=none) (F:=fun _ _=>.any) (G:=G) [] hw hd hf hs hx ht hk he (Nat.blt_eq.mp hsz) (.inl ⟨rfl,rfl,rfl⟩) (fun S1 _ b0 σ a w R u hu=>zE2 hu) (by omega) (by rw[Nat.zero_add];exact hb) (by rw[Nat.zero_add];exact hn)
theorem zAT(T:zAq P tab=true){id id1:Nat}{s:Operand}{t el:TypeId}{d e:TD}{m:Nat}{F G:Nat→Nat→CV}
 (hw:S.wants ops {dst:=some id,op:=.call {callee:=.builtin .append,args:= #[s,x],argTypes:= #[t,t]},type:=ty,pos,after,guard}=some true) (hd:dOk S.n (some id)=true) (hf:S.fr id=true)
 (hs:S.opd s=some (.c (.ow id1))) (hx:S.opd x=some (.c (.ls m e.size G))) (ht:zD tab t=some d) (hk:d.k=.sl el) (he:zD tab el=some e) (hh:S.h id1=some ⟨true,0,e.size,el,F⟩) (hsz:(Nat.blt 0 e.size && Nat.blt id1 1000)=true)
 (h63:m≤4611686018427387904) (hb:m*e.bytes≤140737488355328)
 (hn:AList P ops rest (([id1,id],[id1,id,id])::acc) (S.eff (some id) ⟨.c (.ow id),[(id1,none),(id,some ⟨true,m,e.size,el,G⟩)],[id]⟩) Q):
 AList P ops ({dst:=some id,op:=.call {callee:=.builtin .append,args:= #[s,x],argTypes:= #[t,t]},type:=ty,pos,after,guard}::rest) acc S Q:=
 zBb T hw hd hf hs hx ht hk he hh hsz (by omega) (by rw[Nat.zero_add];exact hb) (by rw[Nat.zero_add];exact hn)
theorem zJY(T:zAq P tab=true){id id1:Nat}{s:Operand}{t el:TypeId}{d e:TD}{n:Nat}{F:Nat→Nat→CV}
 (hw:S.wants ops {dst:=some id,op:=.call {callee:=.builtin .append,args:= #[s,x],argTypes:= #[t,t]},type:=ty,pos,after,guard}=some true) (hd:dOk S.n (some id)=true) (hf:S.fr id=true)
 (hs:S.opd s=some (.c (.ow id1))) (hx:S.opd x=some (.c (.p (.slice none 0 0)))) (ht:zD tab t=some d) (hk:d.k=.sl el) (he:zD tab el=some e) (hh:S.h id1=some ⟨true,n,e.size,el,F⟩) (hsz:(Nat.blt 0 e.size && Nat.blt id1 1000)=true)
 (h63:n+0≤4611686018427387904) (hb:(n+0)*e.bytes≤140737488355328)
 (hn:AList P ops rest (([id1,id],[id1,id,id])::acc) (S.eff (some id) ⟨.c (.ow id),[(id1,none),(id,some ⟨true,n+0,e.size,el,zAj F n (fun _ _=>.any)⟩)],[id]⟩) Q):
 AList P ops ({dst:=some id,op:=.call {callee:=.builtin .append,args:= #[s,x],argTypes:= #[t,t]},type:=ty,pos,after,guard}::rest) acc S Q:=
 AList.app T (o:=some id1) (F:=F) (G:=fun _ _=>.any) [] hw hd hf hs hx ht hk he (Nat.blt_eq.mp (Bool.and_eq_true_iff.1 hsz).1) (.inr ⟨id1,rfl,rfl,hh,Nat.blt_eq.mp (Bool.and_eq_true_iff.1 hsz).2⟩) (fun S1 _ b0 σ a w R u hu=>zR8 hu) h63 hb hn
end ops
section code
theorem ARes.box{tab:List (TypeId×TD)}(T:zAq P tab=true){S:St}{c:Tmp}{t:TypeId}{id sz:Nat}{bt:TypeId}{F:Nat→Nat→CV}{d:TD}{l:List CV}(hc:S.t c=some (.c (.pt id sz 0 0)))(hh:S.h id=some ⟨false,1,sz,bt,F⟩)(ht:zD tab t=some d)(hk:zCZ d.k=true)(hz:d.size=sz)
 (hl:zAD (F 0) 0 d.size=l) (hi:l.all zM=true):ARes P S (.cell c t) (.ag l):=fun b0 σ a w R=>by
 obtain⟨b,cap,cs,-,e1,-,e2,-,-,e3⟩:=zEm R (R.sl c _ hc) hh rfl (by simp:0<1)
 obtain⟨ud,g1,g2⟩:=zE6 T ht hk
 obtain⟨inf,z,u',i1,i2,i3,-⟩:=zAS T ht
 subst hl
 simp only at e3
 have hcell:∀i,i<d.size→w.cell? (Addr.add ⟨b,0*sz+0,none⟩ i)=some (cs.getD (0*sz+(0+i)) undef)∧RepC σ (out b0 σ S.h) w (F 0 (0+i)) (cs.getD (0*sz+(0+i)) undef):=fun i hi=>by
  obtain⟨u,f1,f2⟩:=e3 0 (by simp) (0+i) (by omega)
  rw[zCS,Nat.add_assoc,Array.getD_eq_getD_getElem?,f1]
  exact⟨(cell_of_row w b _ cs bt (0,0) e2).trans f1,f2⟩
 refine⟨.agg ((List.range d.size).map fun i=>cs.getD (0*sz+(0+i)) undef).toArray,?_,?_⟩
 ·have:=zF8 (P:=P) g1 g2 i1 (w:=w) (a:=⟨b,0*sz+0,none⟩) (f:=fun i=>cs.getD (0*sz+(0+i)) undef) (fun i hi=>(hcell i (by omega)).1)
  rw[i2]at this
  simp only[zBJ,e1,asAddr,Sem.run_bind,Sem.run_pure,Result.andThen_ok,this]
 ·exact zJF (x:=.ag _) hi ⟨_,rfl,zF4 fun i hi=>(hcell i hi).2⟩
variable{next:St→Prop}{Q:Exit→St→Prop}{S:St}{id k:Nat}
theorem zN2(h:next S):zCe next Q .normal S:=h
theorem zSv(h:Q (.exit k) S):zCe next Q (.exit k) S:=h
theorem zSw(h:Q .ret S):zCe next Q .ret S:=h
theorem zMu(h:Q .normal S):zEP id Q .normal S:=h
theorem zMv(h:Q .ret S):zEP id Q .ret S:=h
theorem zMt(h:Q .normal S):zEP id Q (.exit id) S:=by show(bif Nat.beq id id then Q .normal S else Q (.exit id) S);rw[show Nat.beq id id=true from Nat.beq_refl id];exact h
theorem zQJ(hne:Nat.beq k id=false)(h:Q (.exit k) S):zEP id Q (.exit k) S:=by show(bif Nat.beq k id then Q .normal S else Q (.exit k) S);rw[hne];exact h
theorem zOv{c:Operand}{x y:Code}{b:Bool}(hc:S.opd c=some (.c (.p (.bool b))))(hb:b=true)(h:AWp P x Q S):AWp P (.cond c x y) Q S:=AWp.cond hc (fun _=>h) fun h'=>by rw[hb]at h';cases h'
theorem zOu{c:Operand}{x y:Code}{b:Bool}(hc:S.opd c=some (.c (.p (.bool b))))(hb:b=false)(h:AWp P y Q S):AWp P (.cond c x y) Q S:=AWp.cond hc (fun h'=>by rw[hb]at h';cases h') fun _=>h
theorem AWp.round{ι:Type}{c:Code}(I:ι→St)(p:ι→Prop)(μ:ι→Nat)(i0:ι)(hp:p i0)(h0:Wk S (I i0))
 (hr:∀i,p i→AWp P c (zCe (fun S'=>∃j,p j∧Wk S' (I j)∧μ j<μ i) Q) (I i)):AWp P (.loop c) Q S:=
 AWp.loop (ι:={i // p i}) (fun i=>I i.1) (fun i=>μ i.1) ⟨i0,hp⟩ h0 fun i=>(hr i.1 i.2).mono fun e S' h=>by
  cases e with
  |normal=>obtain⟨j,h1,h2,h3⟩:=h;exact⟨⟨j,h1⟩,h2,h3⟩
  |_=>exact h
theorem zJ{f:FuncId}{fn:Func}{c:Code}{rs:List ResultVar}{args:List V1}{r:AV}{n:Nat}(hf:P.funcs[f]?=some fn)(hb:fn.body=some c)(hr:fn.results=rs.toArray)(hn:fn.ntmps=n)(hl:Nat.ble args.length n=true)
 (h:AWp P c (zFp P rs r []) (zIE n args)):ACalls P f args r:=by
 subst hn;exact zMr hf hb hr (Nat.ble_eq.mp hl) rfl (fun p hp=>by cases hp) h
theorem zDf{f:FuncId}{fn:Func}{c:Code}{rs:List ResultVar}{args:List V1}{hs hs':List (Nat×AB)}{r:AV}{n:Nat}(hf:P.funcs[f]?=some fn)(hb:fn.body=some c)(hr:fn.results=rs.toArray)(hn:fn.ntmps=n)(hl:Nat.ble args.length n=true)
 (hk:zDS hs'=true) (him:∀p∈hs',∀k j,k<p.2.n→j<p.2.sz→zM (p.2.F k j)=true) (h:AWp P c (zFp P rs r hs') (zBQ n args hs)):HCalls P f args hs r hs':=by
 subst hn;exact zMr hf hb hr (Nat.ble_eq.mp hl) hk him h
theorem LeA.int{h:Nat→Option AB}{ren:List (Nat×Option Nat)}{k:IntKind}{i j:Int}(e:i=j):LeA h ren (.c (.p (.int k i))) (.c (.p (.int k j))):=e▸ .c (.refl _ rfl)
theorem LeC.int{h:Nat→Option AB}{ren:List (Nat×Option Nat)}{k:IntKind}{i j:Int}(e:i=j):LeC h ren (.p (.int k i)) (.p (.int k j)):=e▸ .refl _ rfl
theorem zDa{h:Nat→Option AB}{ren:List (Nat×Option Nat)}{x y:CV}(e:x=y)(hx:zM x=true):LeC h ren x y:=e▸ .refl _ hx
def zCK(ren:List (Nat×Option Nat))(o:Nat):Bool:=Nat.blt o 1000 && ren.all fun p=>match p.2 with|some o'=> !(Nat.beq o' o)|none=>true
theorem zNp{ren:List (Nat×Option Nat)}{o:Nat}(h:zCK ren o=true):o<1000:=by
 unfold zCK at h;rw[Bool.and_eq_true]at h;exact Nat.blt_eq.mp h.1
theorem zNo{ren:List (Nat×Option Nat)}{o:Nat}(h:zCK ren o=true)(m:Nat):zD ren m≠some (some o):=fun e=>by
 unfold zCK at h;rw[Bool.and_eq_true]at h;have:=List.all_eq_true.1 h.2 _ (zBe e)
 simp[Nat.beq_refl]at this
theorem zZ{h:Nat→Option AB}{ren:List (Nat×Option Nat)}{o n n' sz:Nat}{ty:TypeId}{F G:Nat→Nat→CV}(hh:h o=some ⟨true,n,sz,ty,F⟩)(hr:zCK ren o=true)(hn:n'=n)(hc:∀k,k<n→∀j,j<sz→F k j=G k j∧zM (F k j)=true):LeC h ren (.ow o) (.ls n' sz G):=by
 subst hn;exact .frz o n' sz ty F G hh (fun k hk j hj=>(hc k hk j hj).2) (fun k hk j hj=>(hc k hk j hj).1) (zNo hr) (zNp hr)
theorem zCO{h:Nat→Option AB}{ren:List (Nat×Option Nat)}{n n' sz:Nat}{F G:Nat→Nat→CV}(hn:n'=n)(hc:∀k,k<n→∀j,j<sz→F k j=G k j):LeC h ren (.ls n sz F) (.ls n' sz G):=by
 subst hn;exact .ls n' sz F G hc
theorem HeapOk.box{S:St}{ren:List (Nat×Option Nat)}{id o sz:Nat}{ty:TypeId}{F:Nat→Nat→CV}{l:List CV}(hr:zD ren id=some (some o))(hh:S.h o=some ⟨false,1,sz,ty,F⟩)(hl:LeL (LeC S.h ren) (zAD (F 0) 0 sz) l)(hz:l.length=sz):
 HeapOk S ren id ⟨false,1,sz,ty,lF l⟩:=.inr ⟨o,1,F,.inl hr,rfl,hh,fun k hk j hj=>by
  obtain rfl:k=0:=by omega
  have key:∀(l m:List CV),LeL (LeC S.h ren) l m→∀(i:Nat) (x y:CV),l[i]?=some x→m[i]?=some y→LeC S.h ren x y:=by
   intro l
   induction l with
   |nil=>intro m h i x y h1;simp at h1
   | cons a l ih=>
     intro m h i x y h1 h2
     cases m with
     |nil=>exact h.elim
     | cons b m=>
       cases i with
       |zero=>simp at h1 h2;exact h1▸h2▸h.1
       |succ i=>exact ih m h.2 i x y (by simpa using h1) (by simpa using h2)
  have hj':j<sz:=hj;have h1:=zDM (F 0) sz 0 j hj';rw[Nat.zero_add]at h1;have h2:l[j]?=some (lF l 0 j):=by
   unfold lF;rw[List.getD,List.getElem?_eq_getElem (by omega)]
   rfl
  exact key _ _ hl j _ _ h1 h2⟩
theorem HeapOk.row{S:St}{ren:List (Nat×Option Nat)}{id o n n' sz:Nat}{ty:TypeId}{F G:Nat→Nat→CV}(hr:zD ren id=some (some o))(hh:S.h o=some ⟨true,n,sz,ty,F⟩)(hn:n'=n)(hc:∀k,k<n→∀j,j<sz→F k j=G k j∧zM (F k j)=true):
 HeapOk S ren id ⟨true,n',sz,ty,G⟩:=.inr ⟨o,n,F,.inl hr,hn,hh,fun k hk j hj=>zDa (hc k hk j hj).1 (hc k hk j hj).2⟩
theorem zLx{h:Nat→Option AB}{ren:List (Nat×Option Nat)}{sz:Nat}{F:Nat→Nat→CV}{l:List CV}(hc:zAD (F 0) 0 sz=l)(hi:l.all zM=true):∀k,k<1→∀j,j<sz→LeC h ren (F k j) (lF l k j):=fun k hk j hj=>by
 obtain rfl:k=0:=by omega
 have h1:=zDM (F 0) sz 0 j hj;rw[Nat.zero_add,hc]at h1;have hlt:=(List.getElem?_eq_some_iff.1 h1).1;have h2:lF l 0 j=F 0 j:=by unfold lF;rw[List.getD,h1];rfl
 rw[h2];exact .refl _ (List.all_eq_true.1 hi _ (List.mem_of_getElem? h1))
theorem HeapOk.same{S:St}{ren:List (Nat×Option Nat)}{id o sz:Nat}{ty:TypeId}{F:Nat→Nat→CV}{l:List CV}(hr:zD ren id=some (some o))(hh:S.h o=some ⟨false,1,sz,ty,F⟩)(hc:zAD (F 0) 0 sz=l)(hi:l.all zM=true):
 HeapOk S ren id ⟨false,1,sz,ty,lF l⟩:=.inr ⟨o,1,F,.inl hr,rfl,hh,zLx hc hi⟩
theorem HeapOk.lent{S:St}{ren:List (Nat×Option Nat)}{id sz:Nat}{ty:TypeId}{F:Nat→Nat→CV}{l:List CV}(hb:Nat.ble 1000 id=true)(hh:S.h id=some ⟨false,1,sz,ty,F⟩)(hc:zAD (F 0) 0 sz=l)(hi:l.all zM=true):
 HeapOk S ren id ⟨false,1,sz,ty,lF l⟩:=.inr ⟨id,1,F,.inr ⟨Nat.ble_eq.mp hb,rfl⟩,rfl,hh,zLx hc hi⟩
theorem zFt{F G:Nat→Nat→CV}{n sz:Nat}{l:List CV}(h1:∀i,i<n→∀j,j<sz→F i j=G i j)(h2:∀j,j<sz→l.getD j .any=G n j)(hi:∀i,i<n+1→∀j,j<sz→zM (G i j)=true):∀i,i<n+1→∀j,j<sz→zAj F n (sF l sz) i j=G i j∧zM (zAj F n (sF l sz) i j)=true:=fun i hlt j hj=>by
 have:zAj F n (sF l sz) i j=G i j:=by
  unfold zAj;by_cases h:i<n
  ·rw[Nat.blt_eq.mpr h];exact h1 i h j hj
  ·obtain rfl:i=n:=by omega
   rw[show Nat.blt i i=false from Bool.eq_false_iff.2 fun h=>by have:=Nat.blt_eq.mp h;omega]
   simp only[cond_false,Nat.sub_self,sF,Nat.zero_mul,Nat.zero_add]
   exact h2 j hj
 exact⟨this,by rw[this];exact hi i hlt j hj⟩
theorem zAa{P:Nat→Prop}(h0:P 0):∀j,j<1→P j:=fun j hj=>by
 match j,hj with
 |0,_=>exact h0
theorem HeapOk.nil{S:St}{ren:List (Nat×Option Nat)}{id n sz:Nat}{ty:TypeId}{F:Nat→Nat→CV}(hr:zD ren id=some none)(hn:n=0):HeapOk S ren id ⟨true,n,sz,ty,F⟩:=.inl ⟨hr,rfl,hn⟩
end code
end
section
variable{P:Program}
def zT:List Nat→Nat→Option Nat
 | [],_=>none
 | a::l,id=>bif Nat.beq a id then some 0 else match zT l id with
   |some i=>some (i+1)
   |none=>none
theorem zAR:∀{l:List Nat} {id i:Nat},zT l id=some i→l[i]?=some id
 | a ::l,id,i,h=>by
   unfold zT at h
   cases hb:Nat.beq a id with
   | true=>
     rw[hb]at h
     cases h
     rw[Nat.eq_of_beq_eq_true hb]
     rfl
   | false=>
     rw[hb]at h
     simp only[cond_false]at h
     cases hp:zT l id with
     |none=>rw[hp]at h;cases h
     | some j=>
       rw[hp]at h
       cases h
       simpa using zAR hp
def zAO(ids:List Nat):CV→CV
 | .pt id sz k j=>match zT ids id with
   |some i=>.pt (1000+i) sz k j
   |none=>.any
 | .ow id=>match zT ids id with
   |some i=>.ow (1000+i)
   |none=>.any
 | .fn .. =>.any
 |x=>x
def zEu(ids:List Nat):CV→CV
 | .fn f m C=>.fn f m fun i=>zAO ids (C i)
 |x=>zAO ids x
def zDT(ids:List Nat):V1→V1
 | .c x=>.c (zEu ids x)
 | .ag l=>.ag (l.map (zEu ids))
def zAt:Nat→List AB→List (Nat×AB)
 |_,[]=> []
 |i,B::bs=>(1000+i,B)::zAt (i+1) bs
theorem zBR:∀{bs:List AB} {n i:Nat},zD (zAt n bs) i=if 1000+n≤i then bs[i-(1000+n)]? else none
 | [],n,i=>by simp[zAt,zD]
 | B ::bs,n,i=>by
   unfold zAt zD
   cases hb:Nat.beq i (1000+n)with
   | true=>
     have:=Nat.eq_of_beq_eq_true hb;subst this
     simp
   | false=>
     have hne:i≠1000+n:=fun e=>by rw[e,Nat.beq_refl]at hb;cases hb
     simp only[cond_false]
     rw[zBR];by_cases h:1000+(n+1)≤i
     ·rw[if_pos h,if_pos (by omega),show i-(1000+n)=(i-(1000+(n+1)))+1 by omega,List.getElem?_cons_succ]
     ·rw[if_neg h,if_neg (by omega)]
theorem zG7:∀{bs:List AB} {n:Nat},(zAt n bs).length=bs.length
 | [],_=>rfl
 |_::bs,n=>by simp[zAt,zG7 (bs:=bs)]
def LendOk(S:St):List Nat→List AB→Prop
 | [],[]=>True
 |id::ids,B::bs=>(∃F,S.h id=some ⟨B.row,B.n,B.sz,B.ty,F⟩∧(B.row=true→0<B.n)∧∀k,k<B.n→∀j,j<B.sz→F k j=B.F k j∧zM (B.F k j)=true)∧LendOk S ids bs
 |_,_=>False
theorem zI5{S:St}:∀{ids:List Nat} {bs:List AB},LendOk S ids bs→ids.length=bs.length∧∀(i id:Nat),ids[i]?=some id→∃B F,bs[i]?=some B∧S.h id=some ⟨B.row,B.n,B.sz,B.ty,F⟩∧(B.row=true→0<B.n)∧∀k,k<B.n→∀j,j<B.sz→F k j=B.F k j∧zM (B.F k j)=true
 | [],[],_=>⟨rfl,fun i id h=>by simp at h⟩
 | id::ids,B::bs,h=>by
   obtain⟨h1,h2⟩:=zI5 h.2
   refine⟨by simp[h1],fun i id' hi=> ?_⟩
   cases i with
   |zero=>cases hi;obtain⟨F,hF⟩:=h.1;exact⟨B,F,rfl,hF⟩
   |succ i=>simpa using h2 i id' (by simpa using hi)
 | [],_::_,h=>h.elim
 |_::_,[],h=>h.elim
def LendImm:List AB→Prop
 | []=>True
 |B::bs=>(∀k,k<B.n→∀j,j<B.sz→zM (B.F k j)=true)∧LendImm bs
theorem zMF:∀{bs:List AB},LendImm bs→∀(i:Nat) (B:AB),bs[i]?=some B→∀k,k<B.n→∀j,j<B.sz→zM (B.F k j)=true
 |B::bs,h,0,B',hi=>by cases hi;exact h.1
 |B::bs,h,i+1,B',hi=>zMF h.2 i B' (by simpa using hi)
def zAx:List Nat→Bool
 | []=>true
 |a::l=> !(l.any (Nat.beq a)) && zAx l
theorem zDA:∀{l:List Nat},zAx l=true→∀{i j x:Nat},l[i]?=some x→l[j]?=some x→i=j
 | a ::l,h,i,j,x,hi,hj=>by
   unfold zAx at h;rw[Bool.and_eq_true,Bool.not_eq_true']at h;have no:∀k,l[k]?=some a→False:=fun k hk=>by
    have:l.any (Nat.beq a)=true:=List.any_eq_true.2 ⟨a,List.mem_of_getElem? hk,Nat.beq_refl a⟩;rw[this]at h
    cases h.1
   cases i with
   | zero=>
     cases j with
     |zero=>rfl
     | succ j=>
       cases hi
       exact(no j (by simpa using hj)).elim
   | succ i=>
     cases j with
     | zero=>
       cases hj
       exact(no i (by simpa using hi)).elim
     |succ j=>rw[zDA h.2 (by simpa using hi:l[i]?=some x) (by simpa using hj)]
def zO:List Nat→List AB→List (Nat×Option AB)
 |id::ids,B::bs=>(id,some B)::zO ids bs
 |_,_=> []
theorem zD8:∀{ids:List Nat} {bs:List AB},ids.length=bs.length→zAx ids=true→∀(i id:Nat) (B:AB) (h:Nat→Option AB),ids[i]?=some id→bs[i]?=some B→zAb (zO ids bs) h id=some B
 | id ::ids,B::bs,hl,hn,i,id',B',h,hi,hB=>by
   show put (zAb (zO ids bs) h) id (some B) id'=some B'
   cases i with
   |zero=>cases hi;cases hB;exact zAn _ _ _
   | succ i=>
     have hne:id'≠id:=fun e=>by
      have:=zDA hn (i:=i+1) (j:=0) (x:=id') hi (by rw[e];rfl)
      omega
     rw[zX _ _ hne];unfold zAx at hn;rw[Bool.and_eq_true]at hn;exact zD8 (by simpa using hl) hn.2 i id' B' h (by simpa using hi) (by simpa using hB)
theorem zD9:∀{ids:List Nat} {bs:List AB} (id:Nat) (h:Nat→Option AB),id∉ids→zAb (zO ids bs) h id=h id
 | id'::ids,B::bs,id,h,hn=>by
   show put (zAb (zO ids bs) h) id' (some B) id=h id
   simp only[List.mem_cons,not_or]at hn
   rw[zX _ _ hn.1];exact zD9 id h hn.2
 | [],_,_,_,_=>by cases ‹List AB› <;> rfl
 |_::_,[],_,_,_=>rfl

theorem HCalls.at{f:FuncId}{args:List V1}{ids:List Nat}{bs bs':List AB}{r:AV}{b0:zN}{σ:Nat→Option Value}{S:St}{a:Act}{w:World}{dst:Option Tmp}(h:HCalls P f (args.map (zDT ids)) (zAt 0 bs) r (zAt 0 bs'))(R:Rel0 b0 σ S a w)(hd:dOk S.n dst=true)
 {vals:List Value} (hv:RepL (RepV σ (out b0 σ S.h) w) args vals) (hL:LendOk S ids bs) (hnd:zAx ids=true) (hlen:bs'.length=bs.length) (hI:LendImm bs'):
 Calls P f vals.toArray w fun e w'=>∃v,e=.returned v∧Rel b0 (S.eff dst ⟨r,zO ids bs',[]⟩) (a.put dst v) w':=by
 obtain⟨hl,hat⟩:=zI5 hL
 have hσ:∀(i id:Nat),ids[i]?=some id→∃v b,σ id=some v∧zAl v=some b:=fun i id hi=>by
  obtain⟨B,F,_,h2,h3,_⟩:=hat i id hi
  obtain⟨v,e1,e2⟩:=R.hp.blk id _ h2
  rcases e2 with ⟨g0,_,g⟩|⟨b,cap,cs,g1,_⟩|⟨_,_,_,b,o,rfl,_⟩
  ·have:=h3 g0
   have:B.n=0:=g
   omega
  ·exact⟨v,b,e1,g1.blk⟩
  ·exact⟨_,b,e1,rfl⟩
 let fix:Nat→Option Value:=fun i=>if 1000≤i then (ids[i-1000]?).bind σ else none
 have hfix:∀{i:Nat} {v:Value},fix i=some v→1000≤i∧∃id,ids[i-1000]?=some id∧σ id=some v:=fun {i v} h=>by
  simp only[fix]at h
  split at h
  ·rename_i h1
   obtain⟨id,e1,e2⟩:=Option.bind_eq_some_iff.1 h
   exact⟨h1,id,e1,e2⟩
  ·cases h
 have fixi:∀{i id:Nat},ids[i]?=some id→fix (1000+i)=σ id:=fun {i id} hi=>by
  simp only[fix]
  rw[if_pos (by omega),show 1000+i-1000=i by omega,hi]
  rfl
 let Y:Nat→Prop:=fun b=>∃i v,fix i=some v∧zAl v=some b
 have hYo:∀b,Y b→own σ S.h b:=fun b ⟨i,v,h1,h2⟩=>by
  obtain⟨_,id,e1,e2⟩:=hfix h1
  obtain⟨B,F,_,h3,_⟩:=hat _ id e1
  exact⟨id,v,by rw[h3];simp,e2,h2⟩
 let b1:zN:=⟨w,fun b=>out b0 σ S.h b∧¬Y b,Y,fix,fun b hb=>zDh R hb.1,fun b hb=>zDh R (.inl (hYo b hb)),fun b hb=>hb.2,fun i v hi=>by
  obtain⟨h1,id,e1,e2⟩:=hfix hi
  obtain⟨v',b,e3,e4⟩:=hσ _ id e1
  rw[e2]at e3
  cases e3
  exact⟨h1,b,e4⟩,fun _ _=>False,fun _ _ _=>True,none,fun _ _ h=>h.elim,fun _ _ _ _ _ _ _ _=>trivial⟩
 have dom:∀{bs:List AB} {i:Nat},bs.length=ids.length→zD (zAt 0 bs) i≠none→∃k id,i=1000+k∧ids[k]?=some id∧bs[k]?=zD (zAt 0 bs) i:=fun {bs i} hbl hi=>by
  rw[zBR]at hi⊢;by_cases h1:1000+0≤i
  ·rw[if_pos h1]at hi⊢
   have hlt:i-(1000+0)<bs.length:=Nat.lt_of_not_le fun hge=>hi (List.getElem?_eq_none hge)
   exact⟨i-(1000+0),ids[i-(1000+0)]'(by omega),by omega,List.getElem?_eq_getElem _,rfl⟩
  ·rw[if_neg h1]at hi
   exact absurd rfl hi
 have ownY:∀{bs:List AB},bs.length=ids.length→∀b,own fix (zD (zAt 0 bs)) b↔Y b:=fun {bs} hbl b=>⟨fun ⟨i,v,_,h2,h3⟩=>⟨i,v,h2,h3⟩,fun ⟨i,v,h2,h3⟩=>by
  obtain⟨h1,id,e1,e2⟩:=hfix h2
  refine⟨i,v,?_,h2,h3⟩
  rw[zBR,if_pos (by omega)];have:=(List.getElem?_eq_some_iff.1 e1).1;rw[List.getElem?_eq_getElem (by omega)]
  simp⟩
 have outs:∀{bs:List AB},bs.length=ids.length→∀b,out b1 fix (zD (zAt 0 bs)) b↔out b0 σ S.h b:=fun {bs} hbl b=>by
  constructor
  ·rintro(h|h)
   ·exact .inl (hYo b ((ownY hbl b).1 h))
   ·exact h.1
  ·intro h
   by_cases hy:Y b
   ·exact .inl ((ownY hbl b).2 hy)
   ·exact .inr ⟨h,hy⟩
 have toB:∀{x:CV} {u:Value},RepB σ (out b0 σ S.h) w x u→RepB fix (out b1 fix (zD (zAt 0 bs))) w (zAO ids x) u:=fun {x u} hx=>by
  cases x with
  | pt id sz k j=>
    obtain⟨v,b,e1,e2,e3⟩:=hx
    simp only[zAO]
    cases hp:zT ids id with
    |none=>exact trivial
    |some i=>exact⟨v,b,(fixi (zAR hp)).trans e1,e2,e3⟩
  | ow id=>
    obtain⟨e1,e2⟩:=hx
    simp only[zAO]
    cases hp:zT ids id with
    |none=>exact trivial
    |some i=>exact⟨(fixi (zAR hp)).trans e1,e2⟩
  |fn f m C=>exact trivial
  |_=>exact RepI.less (fun b hb=>(outs hl.symm b).1 hb) hx
 have toC:∀{x:CV} {u:Value},RepC σ (out b0 σ S.h) w x u→RepC fix (out b1 fix (zD (zAt 0 bs))) w (zEu ids x) u:=fun {x u} hx=>by
  cases x with
  | fn f m C=>
    obtain⟨g0,vs,g1,g2,g3⟩:=hx
    refine⟨g0,vs,g1,g2,fun i hi=> ?_⟩
    obtain⟨v,k1,k2,k3⟩:=g3 i hi
    exact⟨v,k1,k2,toB k3⟩
  | pt id sz k j=>
    have h2:=toB hx.2
    refine⟨hx.1,?_⟩
    show match zAO ids (.pt id sz k j)with| .fn f m C=>_|x=>RepB fix _ w x u
    simp only[zAO]at h2⊢
    cases hp:zT ids id<;>rw[hp]at h2<;>exact h2
  | ow id=>
    have h2:=toB hx.2
    refine⟨hx.1,?_⟩
    show match zAO ids (.ow id)with| .fn f m C=>_|x=>RepB fix _ w x u
    simp only[zAO]at h2⊢
    cases hp:zT ids id<;>rw[hp]at h2<;>exact h2
  |_=>exact⟨hx.1,toB hx.2⟩
 have H1:HRel b1 fix (zD (zAt 0 bs)) w:=by
  refine⟨fun i B hB=> ?_,fun i j v1 v2 b hi hj h1 h2 e1 e2=> ?_,fun b hb=>.inr ((ownY hl.symm b).1 hb),fun i v hi=>⟨hi,?_⟩,fun i _ hi=>hi⟩
  ·obtain⟨k,id,rfl,e1,e2⟩:=dom hl.symm (by rw[hB];simp:zD (zAt 0 bs) i≠none)
   obtain⟨B',F,g1,g2,g3,g4⟩:=hat k id e1
   rw[hB,g1]at e2
   cases e2
   obtain⟨v,k1,k2⟩:=R.hp.blk id _ g2
   refine⟨v,(fixi e1).trans k1,?_⟩
   rcases k2 with ⟨h0,_,h5⟩|⟨b,cap,cs,m1,m2,m3,m4⟩|⟨m1,m2,m3,b,o,rfl,m4,m5⟩
   ·have:=g3 h0
    have:B.n=0:=h5
    omega
   rotate_left
   ·replace m2:B.n=1:=m2
    replace m3:B.sz=1:=m3
    have:=(g4 0 (by omega) 0 (by omega)).1;exact .inr (.inr ⟨m1,m2,m3,b,o,rfl,m4,this▸m5⟩)
   ·refine .inr (.inl ⟨b,cap,cs,m1,m2,m3,fun k' hk' j hj=> ?_⟩)
    ·obtain⟨u,n1,n2⟩:=m4 k' hk' j hj
     obtain⟨hFe,him⟩:=g4 k' hk' j hj
     simp only[hFe]at n2
     exact⟨u,n1,zBF him n2.1 ((zBo him n2).less fun b hb=>(outs hl.symm b).1 hb)⟩
  ·obtain⟨h1',id1,a1,a2⟩:=hfix h1
   obtain⟨h2',id2,c1,c2⟩:=hfix h2
   obtain⟨B1,F1,_,d1,_⟩:=hat _ id1 a1
   obtain⟨B2,F2,_,d2,_⟩:=hat _ id2 c1
   have:=R.hp.inj id1 id2 v1 v2 b (by rw[d1];simp) (by rw[d2];simp) a2 c2 e1 e2
   subst this;have:=zDA hnd a1 c1
   omega
  ·obtain⟨h1',id1,a1,a2⟩:=hfix hi
   rw[zBR,if_pos (by omega)];have:=(List.getElem?_eq_some_iff.1 a1).1;rw[List.getElem?_eq_getElem (by omega)]
   simp
 refine(h b1 vals H1 (fun i v hi=>by
  obtain⟨h1',id1,a1,a2⟩:=hfix hi
  have:=(List.getElem?_eq_some_iff.1 a1).1;rw[zG7]
  omega) (fun b hb=>(ownY hl.symm b).2 hb) ?_).mono fun e w' ⟨v,g1,g2,g3,g4⟩=>⟨v,g1,?_⟩
 ·refine zA5 (by rw[List.length_map,hv.length]) fun i x u e1 e2=> ?_
  rw[List.getElem?_map,Option.map_eq_some_iff]at e1
  obtain⟨y,e3,rfl⟩:=e1
  obtain⟨u',e4,e5⟩:=hv.get e3
  rw[e2]at e4
  cases e4
  cases y with
  |c y=>exact toC e5
  | ag l=>
    obtain⟨vs,rfl,hvs⟩:=e5
    refine⟨vs,rfl,zA5 (by rw[List.length_map,hvs.length]) fun i x u e1 e2=> ?_⟩
    rw[List.getElem?_map,Option.map_eq_some_iff]at e1
    obtain⟨y,e3,rfl⟩:=e1
    obtain⟨u',e4,e5⟩:=hvs.get e3
    rw[e2]at e4
    cases e4
    exact toC e5
 ·have hbl':bs'.length=ids.length:=hlen.trans hl.symm
  have hK:Keep (own σ S.h) w w':=⟨g4.os,g4.tape,g4.output,g4.size,fun k hk hno=>g4.block k hk fun hy=>hno (hYo k hy)⟩;have hlook:∀i,(∃k id B,ids[k]?=some id∧bs'[k]?=some B∧i=id∧zAb (zO ids bs') S.h i=some B)∨(i∉ids∧zAb (zO ids bs') S.h i=S.h i):=fun i=>by
   by_cases hm:i∈ids
   ·obtain⟨k,hk,rfl⟩:=List.getElem_of_mem hm
    have e1:ids[k]?=some ids[k]:=List.getElem?_eq_getElem hk;have e2:bs'[k]?=some (bs'[k]'(by omega)):=List.getElem?_eq_getElem _;exact .inl ⟨k,_,_,e1,e2,rfl,zD8 hbl'.symm hnd k _ _ S.h e1 e2⟩
   ·exact .inr ⟨hm,zD9 i S.h hm⟩
  have hne:∀i,zAb (zO ids bs') S.h i≠none↔S.h i≠none:=fun i=>by
   rcases hlook i with ⟨k,id,B,e1,e2,rfl,e3⟩|⟨_,e⟩
   ·obtain⟨B',F',_,d1,_⟩:=hat k i e1
    rw[e3,d1]
    simp
   ·rw[e]
  have hown:∀b,own σ (zAb (zO ids bs') S.h) b↔own σ S.h b:=fun b=>⟨fun ⟨i,v,h1,h2,h3⟩=>⟨i,v,(hne i).1 h1,h2,h3⟩,fun ⟨i,v,h1,h2,h3⟩=>⟨i,v,(hne i).2 h1,h2,h3⟩⟩
  have hout:∀b,out b0 σ (zAb (zO ids bs') S.h) b↔out b0 σ S.h b:=fun b=>or_congr (hown b) Iff.rfl
  have H':HRel b0 σ (zAb (zO ids bs') S.h) w':=by
   refine⟨fun i B hB=> ?_,fun i j v1 v2 b hi hj=>R.hp.inj i j v1 v2 b ((hne i).1 hi) ((hne j).1 hj),fun b hb=>R.hp.new b ((hown b).1 hb),fun i v hi=>⟨(R.hp.fx i v hi).1,(hne i).2 (R.hp.fx i v hi).2⟩,R.hp.big⟩
   rcases hlook i with ⟨k,id,B',e1,e2,rfl,e3⟩|⟨hni,e⟩
   ·rw[e3]at hB
    cases hB
    have hB1:zD (zAt 0 bs') (1000+k)=some B:=by rw[zBR,if_pos (by omega),show 1000+k-(1000+0)=k by omega];exact e2
    obtain⟨v,k1,k2⟩:=g3.blk (1000+k) B hB1
    refine⟨v,(fixi e1).symm.trans k1,?_⟩
    rcases k2 with h0|⟨b,cap,cs,m1,m2,m3,m4⟩|hm
    ·exact .inl h0
    rotate_left
    ·exact .inr (.inr hm)
    ·refine .inr (.inl ⟨b,cap,cs,m1,m2,m3,fun k' hk' j hj=> ?_⟩)
     obtain⟨u,n1,n2⟩:=m4 k' hk' j hj
     have him:=zMF hI k B e2 k' hk' j hj
     exact⟨u,n1,zBF him n2.1 ((zBo him n2).less fun b hb=>(outs hbl' b).2 ((hout b).1 hb))⟩
   ·rw[e]at hB
    obtain⟨v,k1,k2⟩:=R.hp.blk i B hB
    refine⟨v,k1,k2.keep hK.out (fun b hb=>.inl ((hout b).1 hb)) (fun _ _ h=>h) fun b hb=> ?_⟩
    have hbo:own σ S.h b:=⟨i,v,by rw[hB];simp,k1,hb⟩
    exact g4.block b (R.hp.lt hbo) fun ⟨j,u,h1,h2⟩=>by
     obtain⟨_,id,a1,a2⟩:=hfix h1
     obtain⟨B2,F2,_,d2,_⟩:=hat _ id a1
     have:=R.hp.inj i id v u b (by rw[hB];simp) (by rw[d2];simp) k1 a2 hb h2
     subst this;exact hni (List.mem_of_getElem? a1)
  exact⟨σ,R.step (e:=⟨r,zO ids bs',[]⟩) hd (fun _ _ h=>h) hK H' (fun b hb=>.inl ((hout b).1 hb)) (fun _=>(g2.keep ⟨rfl,rfl,rfl,Nat.le_refl _,fun _ _ _=>rfl⟩ (fun b hb=>.inl ((outs hl.symm b).2 ((hout b).1 hb))) fun _ _ h=>h).some_) fun i h=>.inl h⟩
theorem zC0{l:List CV}(h:l.all zM=true)(k j:Nat):zM (lF l k j)=true:=by
 unfold lF;rw[List.getD]
 cases hc:l[j]? with
 |none=>rfl
 |some x=>exact List.all_eq_true.1 h _ (List.mem_of_getElem? hc)
theorem LendOk.box{S:St}{id sz:Nat}{ty:TypeId}{F:Nat→Nat→CV}{l:List CV}{ids:List Nat}{bs:List AB}(hh:S.h id=some ⟨false,1,sz,ty,F⟩)(hc:zAD (F 0) 0 sz=l)(hi:l.all zM=true)(hr:LendOk S ids bs):LendOk S (id::ids) (⟨false,1,sz,ty,lF l⟩::bs):=
 ⟨⟨F,hh,fun h=>(by cases h),fun k hk j hj=>⟨by
   obtain rfl:k=0:=by simp at hk;omega
   have h1:=zDM (F 0) sz 0 j hj;rw[Nat.zero_add,hc]at h1;show F 0 j=lF l 0 j;unfold lF;rw[List.getD,h1]
   rfl,zC0 hi k j⟩⟩,hr⟩
theorem LendOk.row{S:St}{id n sz:Nat}{ty:TypeId}{F G:Nat→Nat→CV}{ids:List Nat}{bs:List AB}(hh:S.h id=some ⟨true,n,sz,ty,F⟩)(hn:0<n)(hc:∀k,k<n→∀j,j<sz→F k j=G k j∧zM (G k j)=true)(hr:LendOk S ids bs):LendOk S (id::ids) (⟨true,n,sz,ty,G⟩::bs):=
 ⟨⟨F,hh,fun _=>hn,hc⟩,hr⟩
theorem LendImm.row{n sz:Nat}{ty:TypeId}{G:Nat→Nat→CV}{bs:List AB}(hc:∀k,k<n→∀j,j<sz→zM (G k j)=true)(hr:LendImm bs):LendImm (⟨true,n,sz,ty,G⟩::bs):=⟨hc,hr⟩
theorem zAo{S:St}{ren:List (Nat×Option Nat)}{id n sz:Nat}{ty:TypeId}{F G:Nat→Nat→CV}(hb:Nat.ble 1000 id=true)(hh:S.h id=some ⟨true,n,sz,ty,F⟩)(hc:∀k,k<n→∀j,j<sz→F k j=G k j∧zM (F k j)=true):
 HeapOk S ren id ⟨true,n,sz,ty,G⟩:=.inr ⟨id,n,F,.inr ⟨Nat.ble_eq.mp hb,rfl⟩,rfl,hh,fun k hk j hj=>zDa (hc k hk j hj).1 (hc k hk j hj).2⟩
theorem LendImm.box{sz n:Nat}{ty:TypeId}{l:List CV}{bs:List AB}{row:Bool}(hi:l.all zM=true)(hr:LendImm bs):LendImm (⟨row,n,sz,ty,lF l⟩::bs):=⟨fun k _ j _=>zC0 hi k j,hr⟩
section ops
variable{ops:Array Oper}{rest:List Oper}{acc:List (List Nat×List Nat)}{S:St}{Q:List (List Nat×List Nat)→St→Prop}{dst:Option Tmp}{ty:TypeId}{pos:String}{after:Array Edge}{guard:Option (Nat×Bool)}
theorem zMI{S S1:St}:∀{ids:List Nat} {bs:List AB},(∀id∈ids,S1.h id=S.h id)→LendOk S ids bs→LendOk S1 ids bs
 | [],[],_,h=>h
 |id::ids,B::bs,he,h=>⟨let ⟨F,h1,h2⟩:=h.1;⟨F,(he id (by simp)).trans h1,h2⟩,zMI (fun i hi=>he i (by simp[hi])) h.2⟩
 | [],_::_,_,h=>h.elim
 |_::_,[],_,h=>h.elim
theorem zAG{f:FuncId}{fn:Func}{xs:Array Operand}{ats:Array TypeId}{args:List V1}{r:AV}(ids:List Nat)(bs bs':List AB)(hw:S.wants ops {dst,op:=.call {callee:=.value (.func f),args:=xs,argTypes:=ats},type:=ty,pos,after,guard}=some true)(hd:dOk S.n dst=true)
 (ha:S.opds xs.toList=some args) (hf:P.funcs[f]?=some fn) (hb:fn.body.isNone=false) (hnm:(fn.name== "runtime.NumGoroutine")=false) (hL:LendOk S ids bs) (hnd:(zAx ids && Nat.beq bs'.length bs.length)=true) (hI:LendImm bs')
 (hc:HCalls P f (args.map (zDT ids)) (zAt 0 bs) r (zAt 0 bs'))
 (hn:AList P ops rest ((ids++ [],(zO ids bs').map (·.1)++ [])::acc) (S.eff dst ⟨r,zO ids bs',[]⟩) Q):AList P ops ({dst,op:=.call {callee:=.value (.func f),args:=xs,argTypes:=ats},type:=ty,pos,after,guard}::rest) acc S Q:=
 AList.cons ids ⟨r,zO ids bs',[]⟩ (LStep.of hw fun S1 hA hr _ b0 σ a w R=>by
  rw[Bool.and_eq_true]at hnd;have h2:S1.opds xs.toList=some args:=(zCJ fun x hx=>hA.op x (by simp only[Op.operands,Call.operands];simp;exact .inr (by simpa using hx))).trans ha
  have:=hc.at R (dst:=dst) (by rw[hA.n];exact hd) (zBT R h2) (zMI hr hL) hnd.1 (Nat.eq_of_beq_eq_true hnd.2) hI
  rw[zCc f fn hf hb hnm #[] #[] rfl w]
  simp only[Goes]
  rw[show(#[]++xs.map a.eval++ #[]:Array Value)=(xs.toList.map a.eval).toArray from Array.ext' (by simp)];exact this.mono fun e w' ⟨v,g1,g2⟩=>⟨v,g1,g2⟩) hn
end ops
end
section
variable{P:Program}
def zGx(base:Nat)(O:Nat→Prop)(w:World)(rv:Value)(B:AB):Prop:=
 B.row=true∧((rv=.slice none 0 0∧B.n=0)∨∃b cap cs,OBase B rv b cap∧base≤b∧w.heap[b]?=some (.cells cs B.ty (0,0))∧cs.size=cap*B.sz∧∀k,k<B.n→∀j,j<B.sz→∃u,cs[k*B.sz+j]?=some u∧RepC (fun _=>none) O w (B.F k j) u)
def isP:CV→Bool
 | .p _=>true
 |_=>false
theorem zDR{σ σ':Nat→Option Value}{O O':Nat→Prop}{w w':World}{x:CV}{u:Value}(h:isP x=true)(hx:RepC σ O w x u):RepC σ' O' w' x u:=by
 cases x<;>first|exact hx|cases h
theorem zNY{σ σ':Nat→Option Value}{O O':Nat→Prop}{w w':World}{id id':Nat}{rv:Value}(h1:σ id=some rv)(h2:σ' id'=some rv):∀{l1:List CV} {l2:List CV} {vs:List Value},l1.all isP=true→l2.all isP=true→RepL (RepC σ O w) (l1++ .ow id::l2) vs→RepL (RepC σ' O' w') (l1++ .ow id'::l2) vs
 | x::l1,l2,v::vs,hi,hj,h=>by
   rw[List.all_cons,Bool.and_eq_true]at hi
   exact⟨zDR hi.1 h.1,zNY h1 h2 hi.2 hj h.2⟩
 | [],l2,v::vs,_,hj,h=>by
   obtain⟨g1,g2,g3⟩:=h.1
   rw[h1]at g2
   refine⟨⟨g1,h2.trans g2,g3⟩,zA5 h.2.length fun i x u e1 e2=> ?_⟩
   obtain⟨u',e3,e4⟩:=h.2.get e1
   rw[e2]at e3
   cases e3
   exact zDR (List.all_eq_true.1 hj _ (List.mem_of_getElem? e1)) e4
 | [],_,[],_,_,h=>h.elim
 |_::_,_,[],_,_,h=>h.elim
section ops
variable{ops:Array Oper}{rest:List Oper}{acc:List (List Nat×List Nat)}{S:St}{Q:List (List Nat×List Nat)→St→Prop}{ty:TypeId}{pos:String}{after:Array Edge}{guard:Option (Nat×Bool)}
end ops
end
section
variable{P:Program}
def ECalls(P:Program)(f:FuncId)(args:List V1)(R:AV→Prop):Prop:=
 ∀(O:Nat→Prop) (w:World) (vals:List Value),(∀b,O b→b<w.heap.size)→RepL (RepV (fun _=>none) O w) args vals→Calls P f vals.toArray w fun e w'=>∃v r,e=.returned v∧R r∧RepA (fun _=>none) O w' r v∧Ext w w'
structure AText(P:Program)(ops:Array Oper)(l:List Oper)(S:St)(Q:St→Prop):Prop where
 get:∀rd b0 a w (K:Exit→Act→World→Prop),Rel b0 S a w→(∀S a w,Rel b0 S a w→Q S→K .normal a w)→wpListIn (fnc rd) 0 P ops K l a w
theorem AText.split{ops:Array Oper}{l:List Oper}{S:St}{Q:St→Prop}(n:Nat)(h:AList P ops (l.take n) [] S (fun _ S1=>AText P ops (l.drop n) S1 Q)):AText P ops l S Q:=⟨fun rd b0 a w K hR hK=>by
 have key:∀(l1:List Oper) (l2:List Oper) (acc:List (List Nat×List Nat)) (S:St) (a:Act) (w:World),zDG P ops l1 acc S (fun _ S1=>AText P ops l2 S1 Q)→Rel b0 S a w→wpListIn (fnc rd) 0 P ops K (l1++l2) a w:=by
  intro l1 l2
  induction l1 with
  |nil=>exact fun acc S a w h hR=>h.get rd b0 a w K hR hK
  | cons o l1 ih=>
    rintro acc S a w ⟨rd',e,hs,hk⟩ hR
    rw[List.cons_append];unfold wpListIn
    rcases hs.at hR with ⟨hw,hg⟩|⟨hw,hR'⟩
    ·rw[if_pos hw]
     exact hg.wpIn fun v w' hR'=>ih _ _ _ _ hk hR'
    ·rw[if_neg (by simp[hw])]
     exact⟨fun _ _=>trivial,ih _ _ _ _ hk hR'⟩
 have:=key (l.take n) (l.drop n) [] S a w h.get hR
 rwa [List.take_append_drop]at this⟩
theorem AText.all{ops:Array Oper}{l:List Oper}{S:St}{Q:St→Prop}(h:AList P ops l [] S (fun _ S1=>Q S1)):AText P ops l S Q:=⟨fun rd b0 a w K hR hK=>zJW (QS:=fun _ S1=>Q S1) l [] S a w h.get hR fun _ S a w h1 h2=>hK S a w h2 h1⟩
theorem AWp.text{id:Nat}{l:List Oper}{S:St}{Q:Exit→St→Prop}(h:AText P l.toArray l S (Q .normal)):AWp P (.region id l.toArray false) Q S:=⟨fun b0 a w hR=>
 wpIn_region_lit (h.get _ b0 a w _ hR fun S a w h1 h2=>⟨S,h1,h2⟩)⟩
section ops
variable{ops:Array Oper}{rest:List Oper}{S:St}{Q:St→Prop}{dst:Option Tmp}{ty:TypeId}{pos:String}{after:Array Edge}{guard:Option (Nat×Bool)}
end ops
end
end Go.AV
end
