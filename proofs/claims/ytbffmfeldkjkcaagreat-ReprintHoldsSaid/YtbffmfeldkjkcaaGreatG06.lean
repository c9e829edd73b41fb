/- Parts of the proof: AMem9, AMemA, AMemB, AMemC, ARange. -/
import Derived.Test.YtbffmfeldkjkcaaGreatG05
import Derived.Laws.Cover3
import Derived.RangeFuncNested
set_option linter.unusedSimpArgs false
set_option linter.unusedVariables false
set_option maxHeartbeats 0
section
namespace Go.AV
open Go Go.RowKit Go.Flow
section
variable{P:Program}
theorem ECalls.of{f:FuncId}{args:List V1}{r:AV}(h:ACalls P f args r):ECalls P f args (fun x=>x=r):=fun O w vals hO hv=>by
 let b0:zN:=⟨w,O,fun _=>False,fun _=>none,hO,fun b hb=>hb.elim,fun b _ h=>h,fun i v h=>(by cases h),fun _ _=>False,fun _ _ _=>True,none,fun _ _ h=>h.elim,fun _ _ _ _ _ _ _ _=>trivial⟩
 have hO':∀b,O b→out b0 (fun _=>none) (zD []) b:=fun b hb=>.inr hb
 have hO2:∀b,out b0 (fun _=>none) (zD []) b→O b:=fun b hb=>hb.elim (fun ⟨i,v,h1,_⟩=>absurd rfl h1) fun h=>h
 have he:out b0 (fun _=>none) (zD [])=O:=funext fun b=>propext ⟨hO2 b,hO' b⟩
 refine(h b0 vals ⟨fun i B hB=>(by cases hB),fun i j v1 v2 b hi=>absurd rfl hi,fun b ⟨i,v,h1,_⟩=>absurd rfl h1,fun i v hi=>(by cases hi),fun _ _ _=>rfl⟩ (fun i v h=>by cases h) (fun b h=>h.elim) (by rw[he];exact hv)).mono fun e w' ⟨v,g1,g2,_,g4⟩=>⟨v,r,g1,rfl,by rw[he]at g2;exact g2,g4.os,g4.tape,g4.output,g4.size,fun k hk=>g4.block k hk fun h=>h⟩
def zHh:List CV→Option (List Value)
 | []=>some []
 | .p v::l=>(zHh l).map (v::·)
 |_=>none
theorem zJo{σ:Nat→Option Value}{O:Nat→Prop}{w:World}:∀{l:List CV} {us vs:List Value},zHh l=some us→RepL (RepC σ O w) l vs→vs=us
 | [],us,[],h,_=>by cases h;rfl
 | .p v::l,us,u::vs,h,hr=>by
   obtain⟨us',h1,rfl⟩:=Option.map_eq_some_iff.1 h
   rw[zJo h1 hr.2,hr.1.2]
 | .p _::_,_,[],_,hr=>hr.elim
 | [],_,_::_,_,hr=>hr.elim
section ops
variable{ops:Array Oper}{rest:List Oper}{acc:List (List Nat×List Nat)}{S:St}{Q:List (List Nat×List Nat)→St→Prop}{dst:Option Tmp}{ty xt yt:TypeId}{pos:String}{after:Array Edge}{guard:Option (Nat×Bool)}{x y:Operand}{tab:List (TypeId×TD)}
theorem zJ7{p q:Bool}(hw:S.wants ops {dst,op:=.binOp .eql xt x y yt,type:=ty,pos,after,guard}=some true)(hd:dOk S.n dst=true)(hx:S.opd x=some (.c (.p (.bool p))))(hy:S.opd y=some (.c (.p (.bool q))))(hu:P.underlying xt=some .bool)
 (hn:AList P ops rest (([],[])::acc) (S.eff dst ⟨.c (.p (.bool (p==q))),[],[]⟩) Q):AList P ops ({dst,op:=.binOp .eql xt x y yt,type:=ty,pos,after,guard}::rest) acc S Q:=
 zCo hw hd hx hy rfl (fun w=>by simp[binOp,run_equal_bool w xt p q hu]) rfl hn
theorem zKj{p q:Bool}(hw:S.wants ops {dst,op:=.binOp .neq xt x y yt,type:=ty,pos,after,guard}=some true)(hd:dOk S.n dst=true)(hx:S.opd x=some (.c (.p (.bool p))))(hy:S.opd y=some (.c (.p (.bool q))))(hu:P.underlying xt=some .bool)
 (hn:AList P ops rest (([],[])::acc) (S.eff dst ⟨.c (.p (.bool (!(p==q)))),[],[]⟩) Q):AList P ops ({dst,op:=.binOp .neq xt x y yt,type:=ty,pos,after,guard}::rest) acc S Q:=
 zCo hw hd hx hy rfl (fun w=>by simp[binOp,run_equal_bool w xt p q hu]) rfl hn
theorem zJZ{op:BinOp}{l m:List CV}{us vs:List Value}{r:Bool}(hw:S.wants ops {dst,op:=.binOp op xt x y yt,type:=ty,pos,after,guard}=some true)(hd:dOk S.n dst=true)(hx:S.opd x=some (.ag l))(hy:S.opd y=some (.ag m))
 (hl:zHh l=some us) (hm:zHh m=some vs) (hg:P.eqGuardType P.depth xt=false) (hr:∀w,(Go.binOp op xt (.agg us.toArray) (.agg vs.toArray)).run P w=.ok (.bool r) w)
 (hn:AList P ops rest (([],[])::acc) (S.eff dst ⟨.c (.p (.bool r)),[],[]⟩) Q):AList P ops ({dst,op:=.binOp op xt x y yt,type:=ty,pos,after,guard}::rest) acc S Q:=
 AList.val [] _ hw hd (fun S1 g1 _ b0 σ a w R=>by
  obtain⟨us',e1,e2⟩:=zW R ((g1 x (by simp[Op.operands])).trans hx)
  obtain⟨vs',e3,e4⟩:=zW R ((g1 y (by simp[Op.operands])).trans hy)
  obtain rfl:=zJo hl e2;obtain rfl:=zJo hm e4
  refine⟨.bool r,?_,zCb rfl⟩
  simp only[execOp,e1,e3,Sem.run_bind,run_eqGuard_agg w op xt x y _ _ hg,hr,Result.andThen_ok,Sem.run_pure]) hn
theorem zKa(T:zAq P tab=true){t:TypeId}{id sz j i N:Nat}{d e:TD}{el:TypeId}{ki:IntKind}{n:Int}(hw:S.wants ops {dst,op:=.indexAddr t x y,type:=ty,pos,after,guard}=some true)(hd:dOk S.n dst=true)
 (hx:S.opd x=some (.c (.pt id sz 0 j))) (hy:S.opd y=some (.c (.p (.int ki n)))) (ht:zD tab t=some d) (hk:d.k=.arr N el) (he:zD tab el=some e) (hi:n=(i:Int)) (hlt:i<N)
 (hn:AList P ops rest (([],[])::acc) (S.eff dst ⟨.c (.pt id sz 0 (j+i*e.size)),[],[]⟩) Q):AList P ops ({dst,op:=.indexAddr t x y,type:=ty,pos,after,guard}::rest) acc S Q:=
 AList.val [] _ hw hd (fun S1 h1 _ b0 σ a w R=>by
  obtain⟨-,v,b,e1,e2,e3⟩:=zW R ((h1 x (by simp[Op.operands])).trans hx)
  have e4:=zAU (zW R ((h1 y (by simp[Op.operands])).trans hy));have g1:=zE7 T ht hk
  obtain⟨inf,z,u,i1,i2,i3,-⟩:=zAS T he
  subst hi
  refine⟨.pointer (some ⟨b,0*sz+(j+i*e.size),none⟩),?_,rfl,v,b,e1,e2,rfl⟩
  have hlt':(i:Int)<N:=by omega
  simp only[execOp,e3,e4,Instr.indexAt,Instr.sureAddr,asIntOf,run_underlying g1,Sem.run_bind,Sem.run_pure,Result.andThen_ok]
  simp[sizeOf,typeInfo,i1,i2,hlt',Addr.add,Nat.add_assoc]) hn
theorem zEb(T:zAq P tab=true){t:TypeId}{n sz k j:Nat}{F:Nat→Nat→CV}{d:TD}{l:List CV}(hl:zAD (F k) j d.size=l)(hw:S.wants ops {dst,op:=.load t x,type:=ty,pos,after,guard}=some true)(hd:dOk S.n dst=true)
 (hx:S.opd x=some (.c (.pl n sz F k j))) (ht:zD tab t=some d) (hk:zCZ d.k=true) (hj:j+d.size≤sz)
 (hn:AList P ops rest (([],[])::acc) (S.eff dst ⟨.ag l,[],[]⟩) Q):AList P ops ({dst,op:=.load t x,type:=ty,pos,after,guard}::rest) acc S Q:=by
 subst hl;exact zHJ T hw hd hx ht hk hj hn
theorem AList.index(T:zAq P tab=true){t:TypeId}{i N:Nat}{d e:TD}{el:TypeId}{ki:IntKind}{n:Int}{l m:List CV}(hm:(l.drop (i*e.size)).take e.size=m)(hw:S.wants ops {dst,op:=.index t x y,type:=ty,pos,after,guard}=some true)(hd:dOk S.n dst=true)
 (hx:S.opd x=some (.ag l)) (hy:S.opd y=some (.c (.p (.int ki n)))) (ht:zD tab t=some d) (hk:d.k=.arr N el) (he:zD tab el=some e) (ha:zCZ e.k=true) (hi:n=(i:Int)) (hlt:i<N)
 (hn:AList P ops rest (([],[])::acc) (S.eff dst ⟨.ag m,[],[]⟩) Q):AList P ops ({dst,op:=.index t x y,type:=ty,pos,after,guard}::rest) acc S Q:=by
 subst hm;exact AList.val [] _ hw hd (fun S1 h1 _ b0 σ a w R=>by
  obtain⟨vs,e1,e2⟩:=zW R ((h1 x (by simp[Op.operands])).trans hx)
  have e4:=zAU (zW R ((h1 y (by simp[Op.operands])).trans hy));have g1:=zE7 T ht hk
  obtain⟨ud,g2,g3⟩:=zE6 T he ha
  obtain⟨inf,z,u,i1,i2,i3,-⟩:=zAS T he
  subst hi;have hlt':(i:Int)<N:=by omega
  have hag:∀w,(isAgg el).run P w=.ok true w:=fun w=>by
   simp only[isAgg,Sem.run_bind,run_underlying g2,Result.andThen_ok]
   cases ud<;>first|rfl|cases g3
  refine⟨.agg ((vs.drop (i*e.size)).take e.size).toArray,?_,_,rfl,zA5 (by simp[e2.length]) fun j x v hj hv=> ?_⟩
  ·simp only[execOp,e1,e4,Instr.index,asIntOf,run_underlying g1,Sem.run_bind,Sem.run_pure,Result.andThen_ok]
   simp[hlt',part,hag,sizeOf,typeInfo,i1,i2]
  ·rw[List.getElem?_take]at hj hv
   split at hj
   ·rename_i hlt2
    rw[if_pos hlt2]at hv;rw[List.getElem?_drop]at hj hv
    obtain⟨v',k1,k2⟩:=e2.get hj
    rw[k1]at hv
    cases hv
    exact k2
   ·cases hj) hn
end ops
def zS{α:Type}(c:α→List CV)(z:α)(L:List α)(k j:Nat):CV:=(c (L.getD k z)).getD j .any
section rows
variable{α:Type}{c:α→List CV}{z:α}{sz:Nat}
theorem zGX{L M:List α}{k:Nat}:(L++M).getD k z=if k<L.length then L.getD k z else M.getD (k-L.length) z:=by
 simp only[List.getD_eq_getElem?_getD,List.getElem?_append]
 split<;>rfl
theorem zL(hc:∀x,(c x).all zM=true)(L:List α)(k j:Nat):zM (zS c z L k j)=true:=zC0 (hc _) 0 j
theorem zBh(L:List α)(x:α)(hc:∀x,(c x).all zM=true)(hz:(c x).length=sz):∀i,i<L.length+1→∀j,j<sz→zAj (zS c z L) L.length (sF (c x) sz) i j=zS c z (L++ [x]) i j∧zM (zAj (zS c z L) L.length (sF (c x) sz) i j)=true:=
 zFt (fun i hi j _=>by simp only[zS,zGX,if_pos hi]) (fun j _=>by simp only[zS,zGX,if_neg (Nat.lt_irrefl _),Nat.sub_self];rfl) fun i _ j _=>zL hc _ i j
theorem zJx(L:List α)(h:Nat):∀k,k<h→∀j,j<sz→zS c z L k j=zS c z (L.take h) k j:=fun k hk j _=>by
 simp only[zS,List.getD_eq_getElem?_getD,List.getElem?_take,if_pos hk]
def zRT(c:α→List CV)(g:Nat→α)(k j:Nat):CV:=(c (g k)).getD j .any
theorem zF7(hc:∀x,(c x).all zM=true)(g:Nat→α)(k j:Nat):zM (zRT c g k j)=true:=zC0 (hc _) 0 j
end rows
end
/- Short forms of what is printed often: proofs by default. -/
theorem qr2{A0 A1 N G:Prop}(f:A0→A1→N→G)(hn:N)(h0:A0:=by exact rfl)(h1:A1:=by exact rfl):G:=f h0 h1 hn
theorem qr3{A0 A1 A2 N G:Prop}(f:A0→A1→A2→N→G)(hn:N)(h0:A0:=by exact rfl)(h1:A1:=by exact rfl)(h2:A2:=by exact rfl):G:=f h0 h1 h2 hn
theorem qr4{A0 A1 A2 A3 N G:Prop}(f:A0→A1→A2→A3→N→G)(hn:N)(h0:A0:=by exact rfl)(h1:A1:=by exact rfl)(h2:A2:=by exact rfl)(h3:A3:=by exact rfl):G:=f h0 h1 h2 h3 hn
theorem zHi{A0 A1 A2 A3 A4 N G:Prop}(f:A0→A1→A2→A3→A4→N→G)(hn:N)(h0:A0:=by exact rfl)(h1:A1:=by exact rfl)(h2:A2:=by exact rfl)(h3:A3:=by exact rfl)(h4:A4:=by kernel_rfl):G:=f h0 h1 h2 h3 h4 hn
theorem qr5{A0 A1 A2 A3 A4 N G:Prop}(f:A0→A1→A2→A3→A4→N→G)(hn:N)(h0:A0:=by exact rfl)(h1:A1:=by exact rfl)(h2:A2:=by exact rfl)(h3:A3:=by exact rfl)(h4:A4:=by exact rfl):G:=f h0 h1 h2 h3 h4 hn
theorem zRy{A0 A1 A2 A3 A4 A5 N G:Prop}(f:A0→A1→A2→A3→A4→A5→N→G)(hn:N)(h0:A0:=by exact rfl)(h1:A1:=by exact rfl)(h2:A2:=by exact rfl)(h3:A3:=by exact rfl)(h4:A4:=by exact rfl)(h5:A5:=by exact cmF):G:=f h0 h1 h2 h3 h4 h5 hn
theorem zHj{A0 A1 A2 A3 A4 A5 N G:Prop}(f:A0→A1→A2→A3→A4→A5→N→G)(hn:N)(h0:A0:=by exact rfl)(h1:A1:=by exact rfl)(h2:A2:=by exact rfl)(h3:A3:=by exact rfl)(h4:A4:=by exact rfl)(h5:A5:=by exact oM):G:=f h0 h1 h2 h3 h4 h5 hn
theorem qr7{A0 A1 A2 A3 A4 A5 A6 N G:Prop}(f:A0→A1→A2→A3→A4→A5→A6→N→G)(hn:N)(h0:A0:=by exact rfl)(h1:A1:=by exact rfl)(h2:A2:=by exact rfl)(h3:A3:=by exact rfl)(h4:A4:=by exact rfl)(h5:A5:=by exact rfl)(h6:A6:=by exact rfl):G:=f h0 h1 h2 h3 h4 h5 h6 hn
theorem qr8{A0 A1 A2 A3 A4 A5 A6 A7 N G:Prop}(f:A0→A1→A2→A3→A4→A5→A6→A7→N→G)(hn:N)(h0:A0:=by exact rfl)(h1:A1:=by exact rfl)(h2:A2:=by exact rfl)(h3:A3:=by exact rfl)(h4:A4:=by exact rfl)(h5:A5:=by exact rfl)(h6:A6:=by exact rfl)(h7:A7:=by exact rfl):G:=f h0 h1 h2 h3 h4 h5 h6 h7 hn
theorem zG{A0 A1 A2 A3 A4 A5 A6 A7 A8 A9 A10 N G:Prop}(f:A0→A1→A2→A3→A4→A5→A6→A7→A8→A9→A10→N→G)(hn:N)(h0:A0:=by exact rfl)(h1:A1:=by exact rfl)(h2:A2:=by exact rfl)(h3:A3:=by exact rfl)(h4:A4:=by exact rfl)(h5:A5:=by exact rfl)(h6:A6:=by exact rfl)(h7:A7:=by exact rfl)(h8:A8:=by first|rfl|omega)(h9:A9:=by exact oM)(h10:A10:=by exact oM):G:=f h0 h1 h2 h3 h4 h5 h6 h7 h8 h9 h10 hn
theorem zBI{A0 A1 A2 A3 A4 A5 A6 A7 A8 N G:Prop}(f:A0→A1→A2→A3→A4→A5→A6→A7→A8→N→G)(hn:N)(h0:A0:=by exact rfl)(h1:A1:=by exact rfl)(h2:A2:=by exact rfl)(h3:A3:=by exact rfl)(h4:A4:=by exact rfl)(h5:A5:=by exact rfl)(h6:A6:=by exact rfl)(h7:A7:=by exact rfl)(h8:A8:=by exact oM):G:=f h0 h1 h2 h3 h4 h5 h6 h7 h8 hn
theorem zRA{A0 A1 A2 A3 A4 A5 A6 A7 A8 A9 A10 N G:Prop}(f:A0→A1→A2→A3→A4→A5→A6→A7→A8→A9→A10→N→G)(hn:N)(h0:A0:=by exact rfl)(h1:A1:=by exact rfl)(h2:A2:=by exact rfl)(h3:A3:=by exact rfl)(h4:A4:=by exact rfl)(h5:A5:=by exact rfl)(h6:A6:=by exact rfl)(h7:A7:=by exact rfl)(h8:A8:=by exact rfl)(h9:A9:=by first|rfl|omega)(h10:A10:=by first|rfl|omega):G:=f h0 h1 h2 h3 h4 h5 h6 h7 h8 h9 h10 hn
theorem zC5{A0 A1 A2 A3 A4 A5 A6 A7 A8 A9 A10 A11 A12 N G:Prop}(f:A0→A1→A2→A3→A4→A5→A6→A7→A8→A9→A10→A11→A12→N→G)(hn:N)(h0:A0:=by exact rfl)(h1:A1:=by exact rfl)(h2:A2:=by exact rfl)(h3:A3:=by exact rfl)(h4:A4:=by exact rfl)(h5:A5:=by exact rfl)(h6:A6:=by exact rfl)(h7:A7:=by exact rfl)(h8:A8:=by exact rfl)(h9:A9:=by first|rfl|omega)(h10:A10:=by first|rfl|omega)(h11:A11:=by exact oM)(h12:A12:=by exact oM):G:=f h0 h1 h2 h3 h4 h5 h6 h7 h8 h9 h10 h11 h12 hn
theorem zNd{A0 A1 A2 A3 A4 A5 A6 A7 A8 A9 A10 N G:Prop}(f:A0→A1→A2→A3→A4→A5→A6→A7→A8→A9→A10→N→G)(hn:N)(h0:A0:=by exact rfl)(h1:A1:=by exact rfl)(h2:A2:=by exact rfl)(h3:A3:=by exact rfl)(h4:A4:=by exact rfl)(h5:A5:=by exact rfl)(h6:A6:=by exact rfl)(h7:A7:=by exact rfl)(h8:A8:=by exact rfl)(h9:A9:=by exact oM)(h10:A10:=by exact oM):G:=f h0 h1 h2 h3 h4 h5 h6 h7 h8 h9 h10 hn
theorem zI{A0 A1 A2 A3 A4 A5 A6 A7 A8 A9 A10 A11 N G:Prop}(f:A0→A1→A2→A3→A4→A5→A6→A7→A8→A9→A10→A11→N→G)(hn:N)(h0:A0:=by exact rfl)(h1:A1:=by exact rfl)(h2:A2:=by exact rfl)(h3:A3:=by exact rfl)(h4:A4:=by exact rfl)(h5:A5:=by exact rfl)(h6:A6:=by exact rfl)(h7:A7:=by exact rfl)(h8:A8:=by exact rfl)(h9:A9:=by exact rfl)(h10:A10:=by first|rfl|omega)(h11:A11:=by exact oM):G:=f h0 h1 h2 h3 h4 h5 h6 h7 h8 h9 h10 h11 hn
theorem zF1{A0 A1 A2 A3 A4 A5 A6 A7 A8 A9 A10 N G:Prop}(f:A0→A1→A2→A3→A4→A5→A6→A7→A8→A9→A10→N→G)(hn:N)(h0:A0:=by exact rfl)(h1:A1:=by exact rfl)(h2:A2:=by exact rfl)(h3:A3:=by exact rfl)(h4:A4:=by exact rfl)(h5:A5:=by exact rfl)(h6:A6:=by exact rfl)(h7:A7:=by exact rfl)(h8:A8:=by exact rfl)(h9:A9:=by exact rfl)(h10:A10:=by exact rfl):G:=f h0 h1 h2 h3 h4 h5 h6 h7 h8 h9 h10 hn
theorem zRz{A0 A1 A2 A3 A4 A5 N G:Prop}(f:A0→A1→A2→A3→A4→A5→N→G)(hn:N)(h0:A0:=by exact rfl)(h1:A1:=by exact rfl)(h2:A2:=by exact rfl)(h3:A3:=by exact rfl)(h4:A4:=by exact rfl)(h5:A5:=by exact cmT):G:=f h0 h1 h2 h3 h4 h5 hn
theorem zCy{A0 A1 A2 A3 A4 A5 N G:Prop}(f:A0→A1→A2→A3→A4→A5→N→G)(hn:N)(h0:A0:=by exact rfl)(h1:A1:=by exact rfl)(h2:A2:=by exact rfl)(h3:A3:=by exact rfl)(h4:A4:=by omega)(h5:A5:=by omega):G:=f h0 h1 h2 h3 h4 h5 hn
theorem zDY{A0 A1 A2 A3 A4 A5 A6 N G:Prop}(f:A0→A1→A2→A3→A4→A5→A6→N→G)(hn:N)(h0:A0:=by exact rfl)(h1:A1:=by exact rfl)(h2:A2:=by exact rfl)(h3:A3:=by exact rfl)(h4:A4:=by omega)(h5:A5:=by omega)(h6:A6:=by omega):G:=f h0 h1 h2 h3 h4 h5 h6 hn
theorem zNc{A0 A1 A2 A3 A4 N G:Prop}(f:A0→A1→A2→A3→A4→N→G)(hn:N)(h0:A0:=by exact rfl)(h1:A1:=by exact rfl)(h2:A2:=by exact rfl)(h3:A3:=by omega)(h4:A4:=by omega):G:=f h0 h1 h2 h3 h4 hn
theorem leT{P:Prop}(h:P:=by first|exact LeA.c (LeC.refl _ rfl)|exact LeA.c (LeC.ow _ _ rfl)|exact LeA.c (LeC.pt _ _ _ _ _ rfl)|exact LeA.c (LeC.nil _ rfl)|exact LeA.c (LeC.nils _ _)|(refine LeA.int ?_;omega)|(refine LeA.int ?_;dsimp only;omega)|exact LeA.c (zZ rfl rfl (by first|rfl|omega) (fun i _ j _=>⟨rfl,by first|rfl|exact zF7 (fun _=>rfl) _ i j|exact zL (fun _=>rfl) _ i j⟩))):P:=h
theorem zB{P:Prop}(h:P:=by repeat (first|exact trivial|refine⟨⟨_,rfl,by first|exact LeA.c (LeC.refl _ rfl)|exact LeA.c (LeC.ow _ _ rfl)|exact LeA.c (LeC.pt _ _ _ _ _ rfl)|exact LeA.c (LeC.nil _ rfl)|exact LeA.c (LeC.nils _ _)|(refine LeA.int ?_;omega)|(refine LeA.int ?_;dsimp only;omega)|exact LeA.c (zZ rfl rfl (by first|rfl|omega) (fun i _ j _=>⟨rfl,by first|rfl|exact zF7 (fun _=>rfl) _ i j|exact zL (fun _=>rfl) _ i j⟩))⟩,?_⟩)):P:=h
theorem zAf{P:Prop}(h:P:=by repeat (first|exact trivial|refine⟨by first|exact HeapOk.same rfl rfl rfl rfl|exact HeapOk.lent rfl rfl rfl rfl|exact HeapOk.nil rfl rfl|exact HeapOk.row rfl rfl (by first|rfl|omega) (fun i _ j _=>⟨rfl,by first|rfl|exact zF7 (fun _=>rfl) _ i j|exact zL (fun _=>rfl) _ i j⟩)|exact HeapOk.box rfl rfl (by repeat (first|exact trivial|refine⟨by first|exact LeC.refl _ rfl|exact LeC.ow _ _ rfl|exact LeC.nil _ rfl|exact LeC.nils _ _|exact zZ rfl rfl (by first|rfl|omega) (fun i _ j _=>⟨rfl,by first|rfl|exact zF7 (fun _=>rfl) _ i j|exact zL (fun _=>rfl) _ i j⟩)|exact LeC.int (by omega),?_⟩)) rfl,?_⟩)):P:=h
theorem zAH{P:Prop}(h:P:=by repeat (first|exact trivial|refine⟨⟨_,rfl,by first|exact LeA.c (LeC.fn _ 0 _ _ (fun i hi=>absurd hi (Nat.not_lt_zero _)) (fun i hi=>absurd hi (Nat.not_lt_zero _)))|exact LeA.c (LeC.owB 1000 rfl)|exact LeA.c (LeC.refl _ rfl)|exact LeA.c (LeC.ow _ _ rfl)|exact LeA.c (LeC.pt _ _ _ _ _ rfl)|exact LeA.c (LeC.nil _ rfl)|exact LeA.c (LeC.nils _ _)|(refine LeA.int ?_;omega)|(refine LeA.int ?_;dsimp only;omega)|exact LeA.c (zZ rfl rfl (by first|rfl|omega) (fun i _ j _=>⟨rfl,by first|rfl|exact zF7 (fun _=>rfl) _ i j|exact zL (fun _=>rfl) _ i j⟩))⟩,?_⟩)):P:=h
theorem cnT{P:Prop}(h:P:=by first|rfl|assumption|exact cmT):P:=h
theorem cnF{P:Prop}(h:P:=by first|rfl|assumption|exact cmF):P:=h
theorem hrF{α:Type}{c:α→List CV}(hc:∀x,(c x).all zM=true){z:α}{L:List α}{S:St}{ren:List (Nat×Option Nat)}{id o n n' sz:Nat}{ty:TypeId}(hr:zD ren id=some (some o):=by exact rfl)(hh:S.h o=some ⟨true,n,sz,ty,zS c z L⟩:=by exact rfl)(hn:n'=n:=by exact rfl):HeapOk S ren id ⟨true,n',sz,ty,zS c z L⟩:=HeapOk.row hr hh hn (fun i _ j _=>⟨rfl,zL hc _ i j⟩)
theorem aB:type_of% @AList.nil:= @AList.nil
theorem aE:type_of% @zHH:= @zHH
theorem aG:type_of% @AList.skip:= @AList.skip
theorem aH:type_of% @AList.call:= @AList.call
theorem aJ:type_of% @zJ4:= @zJ4
theorem aK:type_of% @zJ5:= @zJ5
theorem aL:type_of% @AList.add:= @AList.add
theorem aM:type_of% @AList.alloc:= @AList.alloc
theorem aN:type_of% @AList.extract:= @AList.extract
theorem aO:type_of% @zKb:= @zKb
theorem aP:type_of% @zJ9:= @zJ9
theorem aQ:type_of% @AList.box:= @AList.box
theorem aR:type_of% @zKm:= @zKm
theorem aS:type_of% @zKn:= @zKn
theorem aT:type_of% @zHJ:= @zHJ
theorem aU:type_of% @zKa:= @zKa
theorem aV:type_of% @AList.load1l:= @AList.load1l
theorem aW:type_of% @zFh:= @zFh
theorem aX:type_of% @zJ1:= @zJ1
section
variable{P:Program}
def FzV(S:St)(rd:List Nat)(x y:V1):Prop:=
 (x=y∧zDx x=true)∨∃(id n sz:Nat) (ty:TypeId) (F G:Nat→Nat→CV),x=.c (.ow id)∧y=.c (.ls n sz G)∧id∈rd∧S.h id=some ⟨true,n,sz,ty,F⟩∧∀k,k<n→∀j,j<sz→F k j=G k j∧zM (F k j)=true
theorem zQp{S S1:St}{rd:List Nat}{b0:zN}{σ:Nat→Option Value}{a:Act}{w:World}(R:Rel0 b0 σ S1 a w)(hr:∀id∈rd,S1.h id=S.h id){x y:V1}{u:Value}(h:FzV S rd x y)(hu:RepV σ (out b0 σ S1.h) w x u):RepV (fun _=>none) (fun _=>False) w y u:=by
 rcases h with ⟨rfl,hi⟩|⟨id,n,sz,ty,F,G,rfl,rfl,hid,hh,hc⟩
 ·have h1:=zJG hi hu
  exact h1.keep ⟨rfl,rfl,rfl,Nat.le_refl _,fun _ _ _=>rfl⟩ (fun b hb=>hb.elim) fun _ _ h=>h
 ·exact⟨hu.1,zEh (fun k hk j hj=>(hc k hk j hj).1) (zGW R.hp ((hr id hid).trans hh) (fun k hk j hj=>(hc k hk j hj).2) (fun b hb=>hb.elim) (fun v b _ _ h=>h) hu.2.1)⟩
theorem zIW{S S1:St}{rd:List Nat}{b0:zN}{σ:Nat→Option Value}{a:Act}{w:World}(R:Rel0 b0 σ S1 a w)(hr:∀id∈rd,S1.h id=S.h id):∀{l m:List V1} {us:List Value},LeL (FzV S rd) l m→RepL (RepV σ (out b0 σ S1.h) w) l us→RepL (RepV (fun _=>none) (fun _=>False) w) m us
 | [],[],[],_,_=>trivial
 |x::l,y::m,u::us,h,hu=>⟨zQp R hr h.1 hu.1,zIW R hr h.2 hu.2⟩
 | [],_::_,_,h,_=>h.elim
 |_::_,[],_,h,_=>h.elim
 | [],[],_::_,_,h=>h.elim
 |_::_,_::_,[],_,h=>h.elim
section ops
variable{ops:Array Oper}{rest:List Oper}{acc:List (List Nat×List Nat)}{S:St}{Q:List (List Nat×List Nat)→St→Prop}{dst:Option Tmp}{ty:TypeId}{pos:String}{after:Array Edge}{guard:Option (Nat×Bool)}
section
variable{tab:List (TypeId×TD)}
theorem zHG(T:zAq P tab=true){id t el len:Nat}{d e:TD}{ps:Array (Nat×Operand)}{pv:List (Nat×List CV)}{l:List CV}(hw:S.wants ops {dst:=some id,op:=.buildSlice t len ps,type:=ty,pos,after,guard}=some true)(hd:dOk S.n (some id)=true)(hf:S.fr id=true)
 (ht:zD tab t=some d) (hk:d.k=.sl el) (he:zD tab el=some e) (ho:zEF e.zero=true) (hp:zB6 S ps.toList=some pv) (hpos:Nat.beq (len*e.size) 0=false) (hsm:Nat.ble (len*e.size) 65536=true)
 (hl:zCV (fun i=>some (i*e.size,e.size)) ((List.range (len*e.size)).map fun p=>.p (e.zero.getD (p%e.size) undef)) pv=some l)
 (hn:AList P ops rest (([id],[id,id])::acc) (S.eff (some id) ⟨.c (.ow id),[(id,some ⟨true,len,e.size,el,sF l e.size⟩)],[id]⟩) Q):AList P ops ({dst:=some id,op:=.buildSlice t len ps,type:=ty,pos,after,guard}::rest) acc S Q:=
 AList.new (B:=⟨true,len,e.size,el,sF l e.size⟩) [] hw hd hf (fun S1 h1 _ b0 σ a w R=>by
  obtain⟨inf,z,u,i1,i2,i3,i4,i5,i6,-⟩:=zAS T he
  have hp1:zB6 S1 ps.toList=some pv:=(zFY fun p hp=>h1 p.2 (by simp only[Op.operands];simp;exact⟨p.1,by simpa using hp⟩)).trans hp
  obtain⟨q1,q2⟩:=zFZ R hp1
  have hne:¬len*e.size=0:=fun h=>by rw[h]at hpos;cases hpos
  have hzs:z.cells.size=e.size:=by rw[i5];simp[i6]
  have hep:0<e.size:=Nat.pos_of_ne_zero fun h=>hne (by rw[h,Nat.mul_zero])
  have hz0:RepL (RepC σ (out b0 σ S1.h) w) ((List.range (len*e.size)).map fun p=>CV.p (e.zero.getD (p%e.size) undef)) ((Array.range (len*inf.size)).map (z.cells[· % z.cells.size]!)).toList:=by
   rw[i2];refine zA5 (by simp) fun i x v g1 g2=> ?_
   have hi:i<len*e.size:=by have:=(List.getElem?_eq_some_iff.1 g1).1;simpa using this
   have hm:i%e.size<e.zero.length:=by rw[i6];exact Nat.mod_lt _ hep
   rw[List.getElem?_map,List.getElem?_range hi]at g1
   cases g1
   have:v=e.zero[i%e.size]:=by
    rw[Array.getElem?_toList]at g2;have hm2:i%z.cells.size<z.cells.size:=by rw[hzs];exact Nat.mod_lt _ hep
    simp[hi]at g2
    rw[←g2];have h3:i%z.cells.size=i%e.size:=by rw[hzs]
    simp only[h3]
    simp[i5,hm]
   subst this;show RepC _ _ _ (CV.p (e.zero.getD (i%e.size) undef)) _;rw[show e.zero.getD (i%e.size) undef=e.zero[i%e.size] by simp[List.getD,hm]]
   exact⟨List.all_eq_true.1 ho _ (List.getElem_mem hm),rfl⟩
  obtain⟨cs',r1,r2⟩:=zFH (R:=RepC σ (out b0 σ S1.h) w) (place':=fun i=>some (i*inf.size,inf.size)) (fun i=>by rw[i2]) hl hz0 q1 q2
  have hrun:=run_buildSlice (P:=P) w t el len (ps.map fun p=>(p.1,a.eval p.2)) cs' inf z (zBL T ht hk) i1 i4 (by rw[i2];have:=Nat.ble_eq.mp hsm;omega) (by rw[i2];exact hne) (by simpa using r1)
  have hex:(execOp a.eval {dst:=some id,op:=.buildSlice t len ps,type:=ty,pos,after,guard}).run P w=.ok (.value (.slice (some ⟨w.heap.size,0,none⟩) len len)) (w.alloc (.cells cs' el)):=by
   simp only[execOp,hrun,Sem.run_bind,Result.andThen_ok,Sem.run_pure]
  have hcl:=r2.length;have hll:l.length=len*e.size:=by
   have :∀(pv:List (Nat×List CV)) (c l:List CV),zCV (fun i=>some (i*e.size,e.size)) c pv=some l→l.length=c.length:=by
    intro pv
    induction pv with
    |nil=>intro c l h;cases h;rfl
    | cons p pv ih=>
      intro c l h;unfold zCV at h
      simp only at h
      cases hb:(Nat.beq p.2.length e.size && Nat.ble (p.1*e.size+p.2.length) c.length)with
      |false=>rw[hb]at h;cases h
      | true=>
        rw[hb]at h;rw[ih _ _ h]
        simp only[Bool.and_eq_true]at hb
        have:=Nat.ble_eq.mp hb.2
        simp
        omega
   rw[this _ _ _ hl]
   simp
  refine⟨.slice (some ⟨w.heap.size,0,none⟩) len len,len,cs',hex,.inl ⟨rfl,rfl,Nat.le_refl _,?_⟩,by simpa[hll]using hcl,fun k hk j hj=> ?_,fun σ' O' w' h=>zD0 h⟩
  ·have h1:=Nat.ble_eq.mp hsm
   have h2:=Nat.le_mul_of_pos_right len hep
   simp only[maxLen]
   omega
  ·have hlt:=zCi hk hj
   have e1:=List.getElem?_eq_getElem (l:=l) (i:=k*e.size+j) (by rw[hll];exact hlt)
   obtain⟨u,f1,f2⟩:=r2.get e1
   refine⟨u,by rw[←Array.getElem?_toList];exact f1,?_⟩
   have:sF l e.size k j=l[k*e.size+j]'(by rw[hll];exact hlt):=by unfold sF;rw[List.getD_eq_getElem?_getD,e1];rfl
   show RepC _ _ _ (sF l e.size k j) u;rw[this];exact f2) hn
end
theorem zFe{f:FuncId}{fn:Func}{xs:Array Operand}{ats:Array TypeId}{args zBd:List V1}{v:Value}(rd:List Nat)(hw:S.wants ops {dst,op:=.call {callee:=.value (.func f),args:=xs,argTypes:=ats},type:=ty,pos,after,guard}=some true)(hd:dOk S.n dst=true)
 (ha:S.opds xs.toList=some args) (hf:P.funcs[f]?=some fn) (hb:fn.body.isNone=false) (hnm:(fn.name== "runtime.NumGoroutine")=false) (hc:ACalls P f zBd (.c (.p v))) (hz:LeL (FzV S rd) args zBd)
 (hn:AList P ops rest ((rd++ [],[])::acc) (S.eff dst ⟨.c (.p v),[],[]⟩) Q):AList P ops ({dst,op:=.call {callee:=.value (.func f),args:=xs,argTypes:=ats},type:=ty,pos,after,guard}::rest) acc S Q:=
 AList.ext rd _ hw hd (fun S1 h1 hr b0 σ a w R=>by
  have h2:S1.opds xs.toList=some args:=(zCJ fun x hx=>h1 x (by simp only[Op.operands,Call.operands];simp;exact .inr (by simpa using hx))).trans ha
  have:=(ECalls.of hc) (fun _=>False) w _ (fun b hb=>hb.elim) (zIW R hr hz (zBT R h2));rw[zCc f fn hf hb hnm #[] #[] rfl w]
  simp only[Goes]
  rw[show(#[]++xs.map a.eval++ #[]:Array Value)=(xs.toList.map a.eval).toArray from Array.ext' (by simp)];exact this.mono fun e w' ⟨u,r,g1,g2,g3,g4⟩=>by
   subst g2
   exact⟨u,g1,⟨g3.1,g3.2⟩,g4⟩) hn
end ops
theorem ACalls.conv{f:FuncId}{args args':List V1}{r:AV}(h:ACalls P f args r)(hc:∀(σ:Nat→Option Value) (O:Nat→Prop) (w:World) (vals:List Value),RepL (RepV σ O w) args' vals→RepL (RepV σ O w) args vals):ACalls P f args' r:=fun b0 vals h1 h2 h3 h4=>h b0 vals h1 h2 h3 (hc _ _ _ _ h4)
end
section
variable{P:Program}
section ops
variable{ops:Array Oper}{rest:List Oper}{acc:List (List Nat×List Nat)}{S:St}{Q:List (List Nat×List Nat)→St→Prop}{dst:Option Tmp}{ty xt yt:TypeId}{pos:String}{after:Array Edge}{guard:Option (Nat×Bool)}{x y:Operand}
theorem zBW{f:FuncId}{fn:Func}{z:Operand}{xs:Array Operand}{ats:Array TypeId}{args:List V1}{r:AV}{C:Nat→CV}(hw:S.wants ops {dst,op:=.call {callee:=.value z,args:=xs,argTypes:=ats},type:=ty,pos,after,guard}=some true)(hd:dOk S.n dst=true)
 (hz:S.opd z=some (.c (.fn f 0 C))) (ha:S.opds xs.toList=some args) (hi:args.all zDx=true) (hf:P.funcs[f]?=some fn) (hb:fn.body.isNone=false) (hnm:(fn.name== "runtime.NumGoroutine")=false) (hc:ACalls P f args r)
 (hn:AList P ops rest (([],[])::acc) (S.eff dst ⟨r,[],[]⟩) Q):AList P ops ({dst,op:=.call {callee:=.value z,args:=xs,argTypes:=ats},type:=ty,pos,after,guard}::rest) acc S Q:=
 AList.ext [] _ hw hd (fun S1 h1 _ b0 σ a w R=>by
  have h2:S1.opds xs.toList=some args:=(zCJ fun x hx=>h1 x (by simp only[Op.operands,Call.operands];simp;exact .inr (by simpa using hx))).trans ha
  have h3:=zW R ((h1 z (by simp[Op.operands,Call.operands])).trans hz)
  obtain⟨_,vs,e1,e2,_⟩:=h3
  obtain rfl:vs= []:=List.length_eq_zero_iff.1 e2;have:=hc.at R (zBT R h2) hi;rw[zCc f fn hf hb hnm #[] #[] e1 w]
  simp only[Goes]
  rw[show(#[]++xs.map a.eval++ #[]:Array Value)=(xs.toList.map a.eval).toArray from Array.ext' (by simp)];exact this.mono fun e w' ⟨v,g1,g2,g3⟩=>⟨v,g1,g2,g3⟩) hn
theorem zCf{src t:TypeId}{k k':IntKind}{i j:Int}(hj:k'.wrap i=j)(hs:(P.underlying src).isSome=true)(ht:P.underlying t=some (.int k'))(hw:S.wants ops {dst,op:=.convert src t x,type:=ty,pos,after,guard}=some true)(hd:dOk S.n dst=true)(hx:S.opd x=some (.c (.p (.int k i))))
 (hn:AList P ops rest (([],[])::acc) (S.eff dst ⟨.c (.p (.int k' j)),[],[]⟩) Q):AList P ops ({dst,op:=.convert src t x,type:=ty,pos,after,guard}::rest) acc S Q:=
 AList.val [] _ hw hd (fun S1 g1 _ b0 σ a w R=>by
  have e1:=zAU (zW R ((g1 x (by simp[Op.operands])).trans hx));have hk:P.intKind t=k':=by simp[Program.intKind,ht]
  refine⟨.int k' j,?_,zCb rfl⟩
  have h:=run_convert_int w src t k i hs (by rw[hk];exact ht)
  rw[hk,hj]at h
  simp only[execOp,e1,Sem.run_bind,h,Result.andThen_ok,Sem.run_pure]) hn
theorem zNB{t e:TypeId}{w:World}{ad:Addr}{n c:Nat}(h:P.underlying t=some (.slice e)):(Go.binOp .eql t (.slice (some ad) n c) (.slice none 0 0)).run P w=.ok (.bool false) w:=by
 simp[binOp,run_equal_slice_nil w t e (some ad) n c h]
theorem zBc{n sz:Nat}{F:Nat→Nat→CV}{e:TypeId}(hw:S.wants ops {dst,op:=.binOp .eql xt x (.const (.slice none 0 0)) yt,type:=ty,pos,after,guard}=some true)(hd:dOk S.n dst=true)(hx:S.opd x=some (.c (.ls n sz F)))(ht:P.underlying xt=some (.slice e))(h0:0<n)(h1:0<sz)
 (hn:AList P ops rest (([],[])::acc) (S.eff dst ⟨.c (.p (.bool false)),[],[]⟩) Q):AList P ops ({dst,op:=.binOp .eql xt x (.const (.slice none 0 0)) yt,type:=ty,pos,after,guard}::rest) acc S Q:=
 AList.val [] _ hw hd (fun S1 g1 _ b0 σ a w R=>by
  obtain⟨_,A,c,e1,_,hc⟩:=zW R ((g1 x (by simp[Op.operands])).trans hx)
  obtain⟨ad,v,rfl,_⟩:=hc 0 h0 0 h1
  refine⟨.bool false,?_,zCb rfl⟩
  have hr:=zNB (P:=P) (w:=w) (ad:=ad) (n:=n) (c:=c) ht;have e2:a.eval (.const (.slice none 0 0))=.slice none 0 0:=rfl;have hgd:(eqGuard .eql xt x (.const (.slice none 0 0)) (.slice (some ad) n c) (.slice none 0 0)).run P w=.ok () w:=by unfold eqGuard;rfl
  simp only[execOp,e1,e2,Sem.run_bind,hgd,hr,Result.andThen_ok,Sem.run_pure]) hn
end ops
end
section
variable{P:Program}
def zEI(P:Program)(f:FuncId)(args:List V1)(r:Nat→AV)(B:AB):Prop:=
 ∀ (O:Nat→Prop) (w:World) (vals:List Value),(∀b,O b→b<w.heap.size)→RepL (RepV (fun _=>none) O w) args vals→
   Calls P f vals.toArray w fun e w'=>∃v rv,e=.returned v∧zGx w.heap.size O w' rv B∧(∀(σ:Nat→Option Value) (O':Nat→Prop) (w'':World) (id:Nat),σ id=some rv→RepA σ O' w'' (r id) v)∧Ext w w'
theorem Rel0.adoptR{b0:zN}{σ:Nat→Option Value}{S:St}{a:Act}{w w':World}{dst:Option Tmp}(R:Rel0 b0 σ S a w)(hd:dOk S.n dst=true){id:Nat}(hf:S.fr id=true){B:AB}{rv v:Value}{r:Nat→AV}(hE:Ext w w')(hB:zGx w.heap.size (out b0 σ S.h) w' rv B)
 (hx:∀(σ':Nat→Option Value) (O':Nat→Prop) (w'':World) (id:Nat),σ' id=some rv→RepA σ' O' w'' (r id) v) (hpc:∀k,k<B.n→∀j,j<B.sz→isP (B.F k j)=true):Rel b0 (S.eff dst ⟨r id,[(id,some B)],[id]⟩) (a.put dst v) w':=by
 obtain⟨hno,hlow⟩:=R.fr id hf
 obtain⟨hrow,hB⟩:=hB
 have hsub:∀i u,σ i=some u→put σ id (some rv) i=some u:=fun i u h=>by
  rw[zX _ _ (fun e=>by rw[e,hno]at h;cases h)];exact h
 have hb':∀b,zAl rv=some b→w.heap.size≤b:=fun b hb=>by
  rcases hB with ⟨rfl,_⟩|⟨b',cap,cs,h1,h2,_⟩
  ·cases hb
  ·rw[h1.blk]at hb;cases hb;exact h2
 have hout:∀b,out b0 (put σ id (some rv)) (put S.h id (some B)) b→out b0 σ S.h b∨w.heap.size≤b:=fun b hb=>by
  rcases hb with ⟨i,u,h1,h2,h3⟩|hb
  ·by_cases hi:i=id
   ·subst hi
    rw[zAn]at h2
    cases h2
    exact .inr (hb' b h3)
   ·rw[zX _ _ hi]at h1 h2
    exact .inl (.inl ⟨i,u,h1,h2,h3⟩)
  ·exact .inl (.inr hb)
 obtain⟨H,_,hO⟩:=R.hp.put (id:=id) (B':=B) (v':=rv) (σ':=put σ id (some rv)) (h':=zAb [(id,some B)] S.h) (w':=w') hsub (zAn _ _ _) (zAn _ _ _) (fun i hi=>.inr (zX _ _ hi)) (Keep.of_ext hE)
  (fun i u hi=>by
    have h1:=(b0.one i u hi).1;rw[zBS,zX _ _ (by omega)]
    exact(R.hp.fx i u hi).2) (fun i hi=>zX _ _ (by omega))
  (fun i u b hi h1 h2 h3=>by
    have h1':S.h i≠none:=by rw[zBS,zX _ _ hi]at h1;exact h1
    exact Below.block hE b (R.hp.lt ⟨i,u,h1',h2,h3⟩))
  (by
    rcases hB with ⟨h1,h2⟩|⟨b,cap,cs,h1,h2,h3,h4,h5⟩
    ·exact .inl ⟨hrow,h1,h2⟩
    ·refine .inr (.inl ⟨b,cap,cs,h1,h3,h4,fun k hk j hj=> ?_⟩)
     obtain⟨u,e1,e2⟩:=h5 k hk j hj
     exact⟨u,e1,zDR (hpc k hk j hj) e2⟩)
  (fun b hb=>by
    refine⟨.inl (Nat.le_trans R.ext.size (hb' b hb)),.inr (hb' b hb),fun i u hi h1 h2 h3=> ?_⟩
    have h1':S.h i≠none:=by rw[zBS,zX _ _ hi]at h1;exact h1
    have:=R.hp.lt ⟨i,u,h1',h2,h3⟩;have:=hb' b hb
    omega)
 exact⟨put σ id (some rv),R.step (e:=⟨r id,[(id,some B)],[id]⟩) hd hsub (Keep.of_ext hE) H hO (fun _=>hx _ _ _ _ (zAn _ _ _)) (fun i hi=>by
  by_cases e:i=id
  ·exact .inr (by simp[e])
  ·rw[zX _ _ e]at hi;exact .inl hi)⟩
def zHX(S:St)(rs:List ResultVar)(B:AB):Prop:=
 ∃c id,rs= [.tmp c]∧S.t c=some (.c (.ow id))∧S.h id=some B∧B.row=true∧∀k,k<B.n→∀j,j<B.sz→zM (B.F k j)=true
def zO7(rs:List ResultVar)(B:AB):Exit→St→Prop
 | .ret,S=>∃S',Wk S S'∧zHX S' rs B
 | .normal,S=>∃S',Wk S S'∧zHX S' rs B
 |_,_=>False
theorem zRn{f:FuncId}{fn:Func}{c:Code}{rs:List ResultVar}{args:List V1}{B:AB}{n:Nat}(hf:P.funcs[f]?=some fn)(hb:fn.body=some c)(hr:fn.results=rs.toArray)(hn:fn.ntmps=n)(hl:Nat.ble args.length n=true)
 (h:AWp P c (zO7 rs B) (zIE n args)):zEI P f args (fun id=>.c (.ow id)) B:=fun O w vals hO hv=>by
 subst hn
 let b0:zN:=⟨w,O,fun _=>False,fun _=>none,hO,fun b hb=>hb.elim,fun b _ h=>h,fun i v h=>(by cases h),fun _ _=>False,fun _ _ _=>True,none,fun _ _ h=>h.elim,fun _ _ _ _ _ _ _ _=>trivial⟩
 have hl':=hv.length;have hO':∀b,out b0 (fun _=>none) (zD []) b→O b:=fun b hb=>hb.elim (fun ⟨i,v,h1,_⟩=>absurd rfl h1) fun h=>h
 refine zDL (b0:=b0) hf hb rfl h ⟨fun _=>none,trivial,?_,⟨rfl,rfl,rfl,Nat.le_refl _,fun _ _ _=>rfl⟩,⟨fun id B hB=>(by cases hB),fun i j v1 v2 b hi=>absurd rfl hi,fun b ⟨i,v,hi,_⟩=>absurd rfl hi,fun i v hi=>(by cases hi),fun _ _ _=>rfl⟩,fun t x hx=> ?_,fun id hid=>⟨rfl,Nat.blt_eq.mp hid⟩,fun i v hi=>(by cases hi),rfl,trivial⟩ (fun e S hQ=>by cases e<;>first|exact .inl rfl|exact .inr rfl|exact hQ.elim) fun e a w' S0 hR0 hQ0 hd0=> ?_
 ·have:=Nat.ble_eq.mp hl
  simp[zBQ,hl'];omega
 ·obtain⟨y,e1,rfl⟩:∃y,args[t]?=some y∧y.av=x:=by simpa[zBQ,Option.map_eq_some_iff]using hx
  obtain⟨v,e2,e3⟩:=hv.get e1
  have ht:(vals.toArray++Array.replicate (fn.ntmps-vals.toArray.size) undef).getD t undef=v:=by
   have hlt:=(List.getElem?_eq_some_iff.1 e2).1;have:=(List.getElem?_eq_some_iff.1 e2).2
   simp[Array.getD_eq_getD_getElem?,Array.getElem?_append,hlt,this]
  rw[ht]
  exact(e3.keep ⟨rfl,rfl,rfl,Nat.le_refl _,fun _ _ _=>rfl⟩ (fun b hb=>.inl (hO' b hb)) fun _ _ h=>h).av
 ·have fin:∀S,Rel b0 S a w'→(∃S',Wk S S'∧zHX S' rs B)→∃v,(results fn a.tmps).run P w'=.ok v w'∧∃v' rv,Ending.returned v=.returned v'∧zGx w.heap.size O w' rv B∧(∀(σ:Nat→Option Value) (O':Nat→Prop) (w'':World) (id:Nat),σ id=some rv→RepA σ O' w'' (.c (.ow id)) v')∧Ext w w':=fun S hR ⟨S',hw,c',id,hrs,hc,hid,hrow,him⟩=>by
   obtain⟨σ,R⟩:=hw b0 a w' hR
   have hs:=R.sl c' _ hc
   obtain⟨rv,k1,k2⟩:=R.hp.blk id B hid
   have hsub:∀b,O b→out b0 σ S'.h b:=fun b hb=>.inr hb
   have e0:rv=a.tmps.getD c' undef:=by
    have:=hs.2.1;rw[k1]at this;exact Option.some.inj this
   subst e0
   refine⟨a.tmps.getD c' undef,?_,_,_,rfl,⟨hrow,?_⟩,fun σ' O' w'' id' hs'=>⟨hs.1,hs',hs.2.2⟩,?_⟩
   ·rw[zEZ,hr,hrs]
    simp[zBJ]
   ·rcases k2.row hrow with ⟨_,m1,m2⟩|⟨b',cap',cs',m1,m2,m3,m4⟩
    ·exact .inl ⟨m1,m2⟩
    ·refine .inr ⟨b',cap',cs',m1,?_,m2,m3,fun k hk j hj=> ?_⟩
     ·rcases R.hp.new b' ⟨id,_,by rw[hid];simp,k1,m1.blk⟩with h|h
      ·exact h
      ·exact h.elim
     ·obtain⟨u,n1,n2⟩:=m4 k hk j hj
      exact⟨u,n1,zBF (him k hk j hj) n2.1 ((zBo (him k hk j hj) n2).less hsub)⟩
   ·exact⟨R.ext.os,R.ext.tape,R.ext.output,R.ext.size,fun k hk=>R.ext.block k hk fun h=>h.elim (fun h=>h) fun h=>h⟩
  cases e with
  |ret=>exact fin S0 hR0 hQ0
  |normal=>exact fin S0 hR0 hQ0
  |_=>exact hQ0.elim
def zHY(tab:List (TypeId×TD))(S:St)(rs:List ResultVar)(l1 l2:List CV)(pv:Value)(B:AB):Prop:=
 ∃ c t bid sz bt F id d e0,rs= [.cell c t,.tmp e0]∧S.t e0=some (.c (.p pv))∧S.t c=some (.c (.pt bid sz 0 0))∧S.h bid=some ⟨false,1,sz,bt,F⟩∧zD tab t=some d∧zCZ d.k=true∧d.size=sz∧zAD (F 0) 0 d.size=l1++ .ow id::l2∧S.h id=some B∧B.row=true∧
   (∀k,k<B.n→∀j,j<B.sz→zM (B.F k j)=true)
def zO8(tab:List (TypeId×TD))(rs:List ResultVar)(l1 l2:List CV)(pv:Value)(B:AB):Exit→St→Prop
 | .ret,S=>∃S',Wk S S'∧zHY tab S' rs l1 l2 pv B
 | .normal,S=>∃S',Wk S S'∧zHY tab S' rs l1 l2 pv B
 |_,_=>False
theorem zRm{tab:List (TypeId×TD)}(T:zAq P tab=true){f:FuncId}{fn:Func}{c:Code}{rs:List ResultVar}{args:List V1}{l1 l2:List CV}{pv:Value}{B:AB}{n:Nat}(hf:P.funcs[f]?=some fn)(hb:fn.body=some c)(hr:fn.results=rs.toArray)(hn:fn.ntmps=n)(hl:Nat.ble args.length n=true)
 (hi:(l1.all isP && l2.all isP)=true) (h:AWp P c (zO8 tab rs l1 l2 pv B) (zIE n args)):zEI P f args (fun id=>.tu [.ag (l1++ .ow id::l2),.c (.p pv)]) B:=fun O w vals hO hv=>by
 subst hn;rw[Bool.and_eq_true]at hi
 let b0:zN:=⟨w,O,fun _=>False,fun _=>none,hO,fun b hb=>hb.elim,fun b _ h=>h,fun i v h=>(by cases h),fun _ _=>False,fun _ _ _=>True,none,fun _ _ h=>h.elim,fun _ _ _ _ _ _ _ _=>trivial⟩
 have hl':=hv.length;have hO':∀b,out b0 (fun _=>none) (zD []) b→O b:=fun b hb=>hb.elim (fun ⟨i,v,h1,_⟩=>absurd rfl h1) fun h=>h
 refine zDL (b0:=b0) hf hb rfl h ⟨fun _=>none,trivial,?_,⟨rfl,rfl,rfl,Nat.le_refl _,fun _ _ _=>rfl⟩,⟨fun id B hB=>(by cases hB),fun i j v1 v2 b hi=>absurd rfl hi,fun b ⟨i,v,hi,_⟩=>absurd rfl hi,fun i v hi=>(by cases hi),fun _ _ _=>rfl⟩,fun t x hx=> ?_,fun id hid=>⟨rfl,Nat.blt_eq.mp hid⟩,fun i v hi=>(by cases hi),rfl,trivial⟩ (fun e S hQ=>by cases e<;>first|exact .inl rfl|exact .inr rfl|exact hQ.elim) fun e a w' S0 hR0 hQ0 hd0=> ?_
 ·have:=Nat.ble_eq.mp hl
  simp[zBQ,hl'];omega
 ·obtain⟨y,e1,rfl⟩:∃y,args[t]?=some y∧y.av=x:=by simpa[zBQ,Option.map_eq_some_iff]using hx
  obtain⟨v,e2,e3⟩:=hv.get e1
  have ht:(vals.toArray++Array.replicate (fn.ntmps-vals.toArray.size) undef).getD t undef=v:=by
   have hlt:=(List.getElem?_eq_some_iff.1 e2).1;have:=(List.getElem?_eq_some_iff.1 e2).2
   simp[Array.getD_eq_getD_getElem?,Array.getElem?_append,hlt,this]
  rw[ht]
  exact(e3.keep ⟨rfl,rfl,rfl,Nat.le_refl _,fun _ _ _=>rfl⟩ (fun b hb=>.inl (hO' b hb)) fun _ _ h=>h).av
 ·have fin:∀S,Rel b0 S a w'→(∃S',Wk S S'∧zHY tab S' rs l1 l2 pv B)→∃v,(results fn a.tmps).run P w'=.ok v w'∧∃v' rv,Ending.returned v=.returned v'∧zGx w.heap.size O w' rv B∧(∀(σ:Nat→Option Value) (O':Nat→Prop) (w'':World) (id:Nat),σ id=some rv→RepA σ O' w'' (.tu [.ag (l1++ .ow id::l2),.c (.p pv)]) v')∧Ext w w':=fun S hR ⟨S',hw,c',t,bid,sz,bt,F,id,d,e0,hrs,he0,hc,hh,ht,hk,hz,hcl,hid,hrow,him⟩=>by
   obtain⟨σ,R⟩:=hw b0 a w' hR
   obtain⟨b,cap,cs,-,e1,-,e2,-,-,e3⟩:=zEm R (R.sl c' _ hc) hh rfl (by simp:0<1)
   obtain⟨ud,g1,g2⟩:=zE6 T ht hk
   obtain⟨inf,z,u',i1,i2,i3,-⟩:=zAS T ht
   simp only at e3
   have hcell:∀i,i<d.size→w'.cell? (Addr.add ⟨b,0*sz+0,none⟩ i)=some (cs.getD (0*sz+(0+i)) undef)∧RepC σ (out b0 σ S'.h) w' (F 0 (0+i)) (cs.getD (0*sz+(0+i)) undef):=fun i hi=>by
    obtain⟨u,f1,f2⟩:=e3 0 (by simp) (0+i) (by omega)
    rw[zCS,Nat.add_assoc,Array.getD_eq_getD_getElem?,f1]
    exact⟨(cell_of_row w' b _ cs bt (0,0) e2).trans f1,f2⟩
   have hrl:=zF4 (R:=RepC σ (out b0 σ S'.h) w') (F:=F 0) (j:=0) fun i hi=>(hcell i hi).2
   rw[hcl]at hrl;have hsub:∀b,O b→out b0 σ S'.h b:=fun b hb=>.inr hb
   obtain⟨rv,k1,k2⟩:=R.hp.blk id B hid
   have hs0:=R.sl e0 _ he0;have hs1:a.tmps.getD e0 undef=pv:=hs0.2;have hs2:pv.oneCell'=true:=hs1▸hs0.1
   refine⟨.tuple #[.agg ((List.range d.size).map fun i=>cs.getD (0*sz+(0+i)) undef).toArray,pv],?_,_,rv,rfl,⟨hrow,?_⟩,fun σ' O' w'' id' hs=>⟨[_,_],rfl,⟨_,rfl,zNY k1 hs hi.1 hi.2 hrl⟩,⟨hs2,rfl⟩,trivial⟩,?_⟩
   ·have:=zF8 (P:=P) g1 g2 i1 (w:=w') (a:=⟨b,0*sz+0,none⟩) (f:=fun i=>cs.getD (0*sz+(0+i)) undef) (fun i hi=>(hcell i (by omega)).1)
    rw[i2]at this;have hres:(zBJ (.cell c' t) a.tmps).run P w'=.ok (.agg ((List.range d.size).map fun i=>cs.getD (0*sz+(0+i)) undef).toArray) w':=by
     simp only[zBJ,e1,asAddr,Sem.run_bind,Sem.run_pure,Result.andThen_ok,this]
    have hres2:(zBJ (.tmp e0) a.tmps).run P w'=.ok pv w':=by simp only[zBJ,hs1,Sem.run_pure]
    rw[zEZ,hr,hrs];generalize hf:(fun rv=>zBJ rv a.tmps)=f;have hfr:zBJ (.cell c' t) a.tmps=f (.cell c' t):=by rw[←hf]
    have hfr2:zBJ (.tmp e0) a.tmps=f (.tmp e0):=by rw[←hf]
    rw[hfr]at hres;rw[hfr2]at hres2
    simp[hres,hres2]
   ·rcases k2.row hrow with ⟨_,m1,m2⟩|⟨b',cap',cs',m1,m2,m3,m4⟩
    ·exact .inl ⟨m1,m2⟩
    ·refine .inr ⟨b',cap',cs',m1,?_,m2,m3,fun k hk j hj=> ?_⟩
     ·rcases R.hp.new b' ⟨id,rv,by rw[hid];simp,k1,m1.blk⟩with h|h
      ·exact h
      ·exact h.elim
     ·obtain⟨u,n1,n2⟩:=m4 k hk j hj
      exact⟨u,n1,zBF (him k hk j hj) n2.1 ((zBo (him k hk j hj) n2).less hsub)⟩
   ·exact⟨R.ext.os,R.ext.tape,R.ext.output,R.ext.size,fun k hk=>R.ext.block k hk fun h=>h.elim (fun h=>h) fun h=>h⟩
  cases e with
  |ret=>exact fin S0 hR0 hQ0
  |normal=>exact fin S0 hR0 hQ0
  |_=>exact hQ0.elim

section ops
variable{ops:Array Oper}{rest:List Oper}{acc:List (List Nat×List Nat)}{S:St}{Q:List (List Nat×List Nat)→St→Prop}{ty:TypeId}{pos:String}{after:Array Edge}{guard:Option (Nat×Bool)}
theorem zFf{f:FuncId}{fn:Func}{id:Nat}{xs:Array Operand}{ats:Array TypeId}{args:List V1}{r:Nat→AV}{B:AB}(hw:S.wants ops {dst:=some id,op:=.call {callee:=.value (.func f),args:=xs,argTypes:=ats},type:=ty,pos,after,guard}=some true)(hd:dOk S.n (some id)=true)(hfr:S.fr id=true)
 (ha:S.opds xs.toList=some args) (hi:args.all zDx=true) (hf:P.funcs[f]?=some fn) (hb:fn.body.isNone=false) (hnm:(fn.name== "runtime.NumGoroutine")=false) (hc:zEI P f args r B) (hpc:∀k,k<B.n→∀j,j<B.sz→isP (B.F k j)=true)
 (hn:AList P ops rest (([id],[id,id])::acc) (S.eff (some id) ⟨r id,[(id,some B)],[id]⟩) Q):AList P ops ({dst:=some id,op:=.call {callee:=.value (.func f),args:=xs,argTypes:=ats},type:=ty,pos,after,guard}::rest) acc S Q:=
 AList.cons [] ⟨r id,[(id,some B)],[id]⟩ (LStep.of hw fun S1 hA _ hal b0 σ a w R=>by
  have h2:S1.opds xs.toList=some args:=(zCJ fun x hx=>hA.op x (by simp only[Op.operands,Call.operands];simp;exact .inr (by simpa using hx))).trans ha
  have hv:=zBT R h2;have:=hc (out b0 σ S1.h) w (xs.toList.map a.eval) (fun b hb=>zDh R hb) (zA5 hv.length fun i x v h1 h2=>by
   obtain⟨v',e1,e2⟩:=hv.get h1
   rw[h2]at e1
   cases e1
   exact zJG (List.all_eq_true.1 hi _ (List.mem_of_getElem? h1)) e2)
  rw[zCc f fn hf hb hnm #[] #[] rfl w]
  simp only[Goes]
  rw[show(#[]++xs.map a.eval++ #[]:Array Value)=(xs.toList.map a.eval).toArray from Array.ext' (by simp)];exact this.mono fun e w' ⟨v,rv,g1,g2,g3,g4⟩=>⟨v,g1,R.adoptR (by rw[hA.n];exact hd) ((hal id (by simp)).trans hfr) g4 g2 g3 hpc⟩) hn
theorem zJ3{f:FuncId}{fn:Func}{id:Nat}{xs:Array Operand}{ats:Array TypeId}{args zBd:List V1}{r:Nat→AV}{B:AB}(rd:List Nat)(hw:S.wants ops {dst:=some id,op:=.call {callee:=.value (.func f),args:=xs,argTypes:=ats},type:=ty,pos,after,guard}=some true)(hd:dOk S.n (some id)=true)(hfr:S.fr id=true)
 (ha:S.opds xs.toList=some args) (hf:P.funcs[f]?=some fn) (hb:fn.body.isNone=false) (hnm:(fn.name== "runtime.NumGoroutine")=false) (hc:zEI P f zBd r B) (hz:LeL (FzV S rd) args zBd) (hpc:∀k,k<B.n→∀j,j<B.sz→isP (B.F k j)=true)
 (hn:AList P ops rest ((rd++ [id],[id,id])::acc) (S.eff (some id) ⟨r id,[(id,some B)],[id]⟩) Q):AList P ops ({dst:=some id,op:=.call {callee:=.value (.func f),args:=xs,argTypes:=ats},type:=ty,pos,after,guard}::rest) acc S Q:=
 AList.cons rd ⟨r id,[(id,some B)],[id]⟩ (LStep.of hw fun S1 hA hr hal b0 σ a w R=>by
  have h2:S1.opds xs.toList=some args:=(zCJ fun x hx=>hA.op x (by simp only[Op.operands,Call.operands];simp;exact .inr (by simpa using hx))).trans ha
  have:=hc (fun _=>False) w (xs.toList.map a.eval) (fun b hb=>hb.elim) (zIW R hr hz (zBT R h2));rw[zCc f fn hf hb hnm #[] #[] rfl w]
  simp only[Goes]
  rw[show(#[]++xs.map a.eval++ #[]:Array Value)=(xs.toList.map a.eval).toArray from Array.ext' (by simp)];refine this.mono fun e w' ⟨v,rv,g1,g2,g3,g4⟩=>⟨v,g1,R.adoptR (by rw[hA.n];exact hd) ((hal id (by simp)).trans hfr) g4 ⟨g2.1,?_⟩ g3 hpc⟩
  rcases g2.2 with h|⟨b,cap,cs,k1,k2,k3,k4,k5⟩
  ·exact .inl h
  ·refine .inr ⟨b,cap,cs,k1,k2,k3,k4,fun k hk j hj=> ?_⟩
   obtain⟨u,m1,m2⟩:=k5 k hk j hj
   exact⟨u,m1,zDR (hpc k hk j hj) m2⟩) hn
end ops
end
section
variable{P:Program}
abbrev yv(l:Nat):Value:=.func (.yield l) #[] #[]
def zAs(N:Nat)(stop:Bool)(i:Nat):Bool:= !(stop && Nat.beq (i+1) N)
def zH3(P:Program)(b0:zN)(l:Nat)(xs:Nat→List Value)(N:Nat)(stop:Bool):Prop:=
 ∀i,i<N→∀W,b0.J i false W→Keep (b0.V false) b0.w W→YieldAt Fence.wide 0 P l (xs i).toArray W fun e W'=>e=.returned (.bool (zAs N stop i))∧b0.J (i+1) (!zAs N stop i) W'∧Keep (b0.V (!zAs N stop i)) W W'
def itG(P:Program)(l:Nat)(xs:Nat→List Value)(N:Nat)(stop:Bool)(b:zN):Prop:=b.rd=none∧(∀k,¬b.Y k)∧(∀k,b.V false k→b.V true k)∧zH3 P b l xs N stop
def St.yielded(S:St)(dst:Option Tmp)(g:Bool):St:=
 {S with t:=match dst with|some d=>put S.t d (some (.c (.p (.bool g))))|none=>S.t,gs:=S.gs+1,dd:= !g}
theorem Marks.keep2{n0:Nat}{O:Nat→Prop}{w w':World}(hK:Keep O w w')(hO:∀D,O D→D<n0):∀{ds:List Deferred},Marks n0 ds w→Marks n0 ds w'
 | [],_=>trivial
 |_::_,⟨⟨D,e1,e2,e3,e4⟩,h⟩=>⟨⟨D,e1,e2,(hK.block D (Array.getElem?_eq_some_iff.1 e3).1 fun ho=>by have:=hO D ho;omega).trans e3,e4⟩,h.keep2 hK hO⟩
theorem zRi{b0:zN}{σ:Nat→Option Value}{S:St}{a:Act}{w:World}(R:Rel0 b0 σ S a w){xs:List Operand}{vs:List Value}(h:S.opds xs=some (vs.map fun v=>.c (.p v))):xs.map a.eval=vs:=by
 have:=zBT R h;have key:∀(vs us:List Value),RepL (RepV σ (out b0 σ S.h) w) (vs.map fun v=>V1.c (.p v)) us→us=vs:=fun vs=>by
  induction vs with
  | nil=>intro us h;cases us with
    |nil=>rfl
    |cons u us=>exact h.elim
  | cons v vs ih=>intro us h;cases us with
    |nil=>exact h.elim
    |cons u us=>rw[ih us h.2,show u=v from h.1.2]
 exact key _ _ this
theorem Rel0.yield{b0:zN}{σ:Nat→Option Value}{S:St}{a:Act}{w w':World}{dst:Option Tmp}{g:Bool}(R:Rel0 b0 σ S a w)(hd:dOk S.n dst=true)(hdd:S.dd=false)(hY:∀k,¬b0.Y k)(hV:∀k,b0.V false k→b0.V true k)
 (hK:Keep (b0.V (!g)) w w') (hJ:b0.J (S.gs+1) (!g) w'):Rel0 b0 σ (S.yielded dst g) (a.put dst (.bool g)) w':=by
 have hVlt:∀{d k},b0.V d k→k<b0.w.heap.size:=fun h=>b0.lt _ (b0.vx _ _ h)
 have hKo:Keep (out b0 σ S.h) w w':=hK.less fun k hk=>.inr (b0.vx _ _ hk)
 have hext:=R.ext;unfold zC9 at hext;rw[hdd]at hext
 refine⟨by rw[zEN];exact R.df.keep2 hK fun D h=>hVlt h,size_put.trans R.sz,?_,⟨fun id B hB=> ?_,R.hp.inj,R.hp.new,R.hp.fx,R.hp.big⟩,fun t x ht=> ?_,R.fr,R.le,R.gd,hJ⟩
 ·refine(hext.less fun b hb=> ?_).trans hK fun i h=>.inr (.inr h)
  rcases hb with hb|hb
  ·exact .inl hb
  ·refine .inr ?_
   show b0.V (!g) b
   cases g with
   |true=>exact hb
   |false=>exact hV b hb
 ·obtain⟨v,e1,e2⟩:=R.hp.blk id B hB
  refine⟨v,e1,e2.keep hKo (fun b hb=>.inl hb) (fun _ _ h=>h) fun b hb=> ?_⟩
  have ho:own σ S.h b:=⟨id,v,by rw[show S.h id=some B from hB];simp,e1,hb⟩
  refine hK.block b (R.hp.lt ho) fun h=> ?_
  rcases R.hp.new b ho with h1|h1
  ·have:=hVlt h;omega
  ·exact hY b h1
 ·have keep:∀{t x},S.t t=some x→RepA σ (out b0 σ S.h) w' x (a.tmps.getD t undef):=fun h=>(R.sl _ _ h).keep hKo (fun b hb=>.inl hb) fun _ _ h=>h
  cases dst with
  |none=>exact keep ht
  | some d=>
    have hlt:d<a.tmps.size:=by rw[R.sz];exact Nat.blt_eq.mp hd
    rw[zFM hlt]
    simp only[St.yielded]at ht
    by_cases e:t=d
    ·subst e
     rw[zAn]at ht
     cases ht
     rw[if_pos rfl]
     exact⟨rfl,rfl⟩
    ·rw[zX _ _ e]at ht
     rw[if_neg e];exact keep ht
section ops
variable{ops:Array Oper}{rest:List Oper}{S:St}{Q:St→Prop}{dst:Option Tmp}{ty:TypeId}{pos:String}{after:Array Edge}{guard:Option (Nat×Bool)}
theorem AText.yield{l N i:Nat}{stop:Bool}{xs:Nat→List Value}{vs:List Value}{z:Operand}{avs:Array Operand}{ats:Array TypeId}(g:Bool)(hw:S.wants ops {dst,op:=.call {callee:=.value z,args:=avs,argTypes:=ats},type:=ty,pos,after,guard}=some true)(hd:dOk S.n dst=true)
 (hz:S.opd z=some (.c (.p (yv l)))) (ha:S.opds avs.toList=some (vs.map fun v=>.c (.p v))) (hG:∀b,S.G b→itG P l xs N stop b) (hgs:S.gs=i) (hdd:S.dd=false) (hi:i<N) (hx:xs i=vs) (hg:zAs N stop i=g)
 (hn:AText P ops rest (S.yielded dst g) Q):AText P ops ({dst,op:=.call {callee:=.value z,args:=avs,argTypes:=ats},type:=ty,pos,after,guard}::rest) S Q:=⟨fun rd b0 a w K hR hK=>by
 obtain⟨σ,R0⟩:=hR
 obtain⟨_,hY,hV,hYo⟩:=hG b0 R0.gd
 unfold wpListIn;rw[if_pos (zC8 R0 hw)]
 refine⟨fun _ _=>trivial,?_⟩
 have hzv:a.eval z=yv l:=(zW R0 hz).2;have hav:=zRi R0 ha;have hext:=R0.ext;unfold zC9 at hext;rw[hdd]at hext;have hgh:=R0.gh;rw[hgs,hdd]at hgh;subst hx hg
 obtain⟨fn,tmps,assign,body,e1,e2⟩:=hYo i hi w hgh (hext.less fun b hb=>hb.elim (fun h=>(hY b h).elim) fun h=>h)
 rw[Oper.semAt_eq _ _ _ (fun c hc=>by cases hc)];have hrun:(execOp a.eval {dst,op:=.call {callee:=.value z,args:=avs,argTypes:=ats},type:=ty,pos,after,guard}).run P w=.ok (.round l fn tmps assign body) w:=by
  have hm:avs.map a.eval=(xs i).toArray:=by rw[←hav];exact Array.ext' (by simp)
  simp only[execOp,resolve,hzv,hm,Deferred.ofValue,Sem.run_bind,Sem.run_pure,Result.andThen_ok]
  simp[invoke,e1]
 rw[hrun,Oper.uponIn_round]
 refine⟨fun hd=>(by cases hd),RoundIn.mono (F:=fnc rd) e2 fun e w' ⟨h1,h2,h3⟩=> ?_⟩
 subst h1;exact hn.get rd b0 _ _ K ⟨σ,R0.yield hd hdd hY hV h3 (by rw[hgs];exact h2)⟩ hK⟩
end ops

def zGv(P:Program)(gf:FuncId)(cs:List V1)(xs:Nat→List Value)(M:Nat):Prop:=
 ∀ (b0:zN) (l N:Nat) (stop:Bool) (vals:List Value),b0.fix=(fun _=>none)→(∀k,¬b0.Y k)→b0.rd=none→(∀k,b0.V false k→b0.V true k)→(stop=true→0<N∧N≤M)→(stop=false→N=M)→
   zH3 P b0 l xs N stop→b0.J 0 false b0.w→RepL (RepV (fun _=>none) b0.X b0.w) cs vals→
   Calls P gf (yv l::vals).toArray b0.w fun e w'=>(∃v,e=.returned v)∧b0.J N stop w'∧Keep (b0.V stop) b0.w w'
def zO5(N:Nat)(stop:Bool):Exit→St→Prop
 | .ret,S=>S.gs=N∧S.dd=stop
 | .normal,S=>S.gs=N∧S.dd=stop
 |_,_=>False
def zIF(G:zN→Prop)(n:Nat)(args:List V1):St:={n,ln:=0,t:=fun i=>(args[i]?).map V1.av,h:=fun _=>none,fr:=fun id=>Nat.blt id 1000,G,gs:=0,dd:=false}
theorem zQN{gf:FuncId}{fn:Func}{c:Code}{cs:List V1}{xs:Nat→List Value}{M n:Nat}(hf:P.funcs[gf]?=some fn)(hb:fn.body=some c)(hr:fn.results= #[])(hn:fn.ntmps=n)(hl:Nat.ble (cs.length+1) n=true)
 (h:∀(l N:Nat) (stop:Bool),(stop=true→0<N∧N≤M)→(stop=false→N=M)→AWp P c (zO5 N stop) (zIF (itG P l xs N stop) n (.c (.p (yv l))::cs))):zGv P gf cs xs M:=fun b0 l N stop vals hfix hY hrd hV h1 h2 hYo hJ hv=>by
 subst hn;have hl':=hv.length;have hX:∀b,out b0 (fun _=>none) (fun _=>none) b→b0.X b:=fun b hb=>hb.elim (fun ⟨i,v,h1,_⟩=>absurd rfl h1) fun h=>h
 refine zDL (b0:=b0) hf hb hrd (h l N stop h1 h2) ⟨fun _=>none,trivial,?_,⟨rfl,rfl,rfl,Nat.le_refl _,fun _ _ _=>rfl⟩,⟨fun id B hB=>(by cases hB),fun i j v1 v2 b hi=>absurd rfl hi,fun b ⟨i,v,hi,_⟩=>absurd rfl hi,fun i v hi=>(by rw[hfix]at hi;cases hi),fun _ _ _=>rfl⟩,fun t x hx=> ?_,fun id hid=>⟨rfl,Nat.blt_eq.mp hid⟩,fun i v hi=>(by rw[hfix]at hi;cases hi),⟨hrd,hY,hV,hYo⟩,hJ⟩ (fun e S hQ=>by cases e<;>first|exact .inl rfl|exact .inr rfl|exact hQ.elim) fun e a w S hR hQ hd=> ?_
 ·have:=Nat.ble_eq.mp hl
  simp[zIF,hl'];omega
 ·have hv':RepL (RepV (fun _=>none) b0.X b0.w) (.c (.p (yv l))::cs) (yv l::vals):=⟨⟨rfl,rfl⟩,hv⟩
  obtain⟨y,e1,rfl⟩:∃y,(V1.c (.p (yv l))::cs)[t]?=some y∧y.av=x:=by simpa[zIF,Option.map_eq_some_iff]using hx
  obtain⟨v,e2,e3⟩:=hv'.get e1
  have ht:((yv l::vals).toArray++Array.replicate (fn.ntmps-(yv l::vals).toArray.size) undef).getD t undef=v:=by
   have hlt:=(List.getElem?_eq_some_iff.1 e2).1;have:=(List.getElem?_eq_some_iff.1 e2).2
   simp only[Array.getD_eq_getD_getElem?,Array.getElem?_append,List.size_toArray,hlt,if_true,List.getElem?_toArray,e2,Option.getD_some]
  rw[ht]
  exact(e3.keep ⟨rfl,rfl,rfl,Nat.le_refl _,fun _ _ _=>rfl⟩ (fun b hb=>.inl (hX b hb)) fun _ _ h=>h).av
 ·obtain⟨g1,g2⟩:S.gs=N∧S.dd=stop:=by cases e<;>first|exact hQ|exact hQ.elim
  obtain⟨σ,R⟩:=hR
  have hext:=R.ext;have hgh:=R.gh;unfold zC9 at hext;rw[g1,g2]at hgh;rw[g2]at hext
  exact⟨.tuple #[],by rw[zEZ,hr];simp,⟨_,rfl⟩,hgh,hext.less fun b hb=>hb.elim (fun h=>(hY b h).elim) fun h=>h⟩
end
end Go.AV
end
