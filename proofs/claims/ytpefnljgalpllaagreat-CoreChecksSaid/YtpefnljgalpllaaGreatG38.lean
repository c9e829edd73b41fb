/- Parts of the proof: ADr9. -/
import Derived.Test.YtpefnljgalpllaaGreatG37
set_option linter.unusedSimpArgs false
set_option linter.unusedVariables false
set_option maxHeartbeats 0
section
namespace Go.AV
open Go Go.RowKit Go.Flow
section
variable{P:Program}{ops:Array Oper}
def zEG(ops:Array Oper):List Nat→Array Bool→Bool
 | [],listed=>(Region.ready .any ops listed).isEmpty
 |k::s,listed=>decide (Region.ready .any ops listed= [k]) && zEG ops s (listed.setIfInBounds k true)
theorem zHU{F:Fence}{nd:Nat}{Q:Exit→Act→World→Prop}:∀(s:List Nat) (os:List Oper) (listed:Array Bool) (a:Act) (w:World),s.map (fun k=>ops[k]?)=os.map some→zEG ops s listed=true→wpListIn F nd P ops Q os a w→wpAnyIn F nd P .any ops Q s.length listed a w
 | [],[],listed,a,w,_,hB,h=>⟨by simpa[zEG]using hB,h⟩
 | k::s,o::os,listed,a,w,hl,hB,h=>by
   simp only[List.map_cons,List.cons.injEq]at hl
   obtain⟨h0,hl⟩:=hl
   simp only[zEG,Bool.and_eq_true,decide_eq_true_eq]at hB
   refine⟨fun h1=>(by rw[hB.1]at h1;cases h1),fun i hi=> ?_⟩
   rw[hB.1]at hi;have hik:i=k:=by simpa using hi
   subst hik;have hw:wpOpIn F nd P ops Q i (wpListIn F nd P ops Q os) a w:=by unfold wpOpIn;simp only[h0];exact h
   exact wpOpIn_mono (fun a' w' h'=>zHU s os _ a' w' hl hB.2 h') hw
 | [],_::_,_,_,_,h,_,_=>by simp at h
 |_::_,[],_,_,_,h,_,_=>by simp at h
structure AHoist(P:Program)(ops:Array Oper)(o:Oper)(S S':St):Prop where
 wants:S.wants ops o=some true
 run:∃x,S'=S.eff o.dst ⟨x,[],[]⟩∧dOk S.n o.dst=true∧∀b0 σ a w,Rel0 b0 σ S a w→∃v,(∀w',(execOp a.eval o).run P w'=.ok (.value v) w')∧(∀w',o.about P w' a.eval=none)∧RepA σ (out b0 σ S.h) w x v
section
variable{S:St}{dst:Option Tmp}{ty:TypeId}{pos:String}{after:Array Edge}{guard:Option (Nat×Bool)}{x y:Operand}
theorem AHoist.move{z:AV}(hw:S.wants ops {dst,op:=.move x,type:=ty,pos,after,guard}=some true)(hd:dOk S.n dst=true)(hx:S.opd x=some z):AHoist P ops {dst,op:=.move x,type:=ty,pos,after,guard} S (S.eff dst ⟨z,[],[]⟩):=
 ⟨hw,_,rfl,hd,fun b0 σ a w R=>⟨a.eval x,fun _=>rfl,fun _=>rfl,zX R hx⟩⟩
theorem AHoist.add{xt yt:TypeId}{i j:Int}(hw:S.wants ops {dst,op:=.binOp .add xt x y yt,type:=ty,pos,after,guard}=some true)(hd:dOk S.n dst=true)(hx:S.opd x=some (.c (.p (.int .i64 i))))(hy:S.opd y=some (.c (.p (.int .i64 j))))(h1:-9223372036854775808≤i+j)(h2:i+j≤9223372036854775807):
 AHoist P ops {dst,op:=.binOp .add xt x y yt,type:=ty,pos,after,guard} S (S.eff dst ⟨.c (.p (.int .i64 (i+j))),[],[]⟩):=
 ⟨hw,_,rfl,hd,fun b0 σ a w R=>by
   have e1:=zA1 (zX R hx);have e2:=zA1 (zX R hy)
   refine⟨.int .i64 (i+j),fun w'=> ?_,fun _=>rfl,zCi rfl⟩
   have hgd:(eqGuard .add xt x y (.int .i64 i) (.int .i64 j)).run P w'=.ok () w':=by unfold eqGuard;rfl
   have hr:(Go.binOp .add xt (.int .i64 i) (.int .i64 j)).run P w'=.ok (.int .i64 (i+j)) w':=by rw[←show IntKind.i64.wrap (i+j)=i+j by rw[IntKind.wrap_i64];omega];rfl
   simp only[execOp,e1,e2,Sem.run_bind,hgd,hr,Result.andThen_ok,Sem.run_pure]⟩
end
theorem zG8{rd:Option Nat}{o:Oper}{i fuel:Nat}{listed:Array Bool}{K:Exit→Act→World→Prop}{b0:zJ}{S S':St}{a:Act}{w:World}(hro:rd=none)(hi:ops[i]?=some o)(hs:Region.noSelect ops=true)(hf:Region.free .any ops listed i=true)(hr:(Region.ready .any ops listed).contains i=true)
 (y:AHoist P ops o S S') (hK:∀e a w,K e a w→e=.normal) (R:Rel b0 S a w) (h:∀a',Rel b0 S' a' w→wpAnyIn (fnc rd) 0 P .any ops K fuel (listed.setIfInBounds i true) a' w):wpAnyIn (fnc rd) 0 P .any ops K (fuel+1) listed a w:=by
 obtain⟨σ,R0⟩:=R
 obtain⟨x,rfl,hd,hv⟩:=y.run
 obtain⟨v,h1,h2,h3⟩:=hv b0 σ a w R0
 exact wpAnyIn_take (by rw[hro];rfl) hi hs hf hr (fun c a w hq=>by cases hK _ _ _ hq) ⟨.inl ⟨zCm R0 y.wants,h1⟩,h2⟩ (h _ ⟨σ,R0.val hd (Ext.refl w) fun _=>h3⟩)
abbrev l9:Nat→List Nat→Array Bool:=fun n s=>s.foldl (fun l i=>l.setIfInBounds i true) (Array.replicate n false)
def zLE(ops:Array Oper):Bool:=
 Region.noSelect ops && (Region.free .any ops (l9 9 []) 1 && (Region.ready .any ops (l9 9 [])).contains 1) && (Region.free .any ops (l9 9 [1]) 2 && (Region.ready .any ops (l9 9 [1])).contains 2) &&
  (Region.free .any ops (l9 9 [1,2]) 5 && (Region.ready .any ops (l9 9 [1,2])).contains 5) && (Region.free .any ops (l9 9 [1,2,5]) 6 && (Region.ready .any ops (l9 9 [1,2,5])).contains 6) &&
  decide (Region.ready .any ops (l9 9 [1,2,5,6])= [0,3]) && zEG ops [3,4,7,8] (l9 9 [1,2,5,6,0]) && decide (Region.ready .any ops (l9 9 [1,2,5,6,3])= [0,4]) &&
  zEG ops [4,7,8] (l9 9 [1,2,5,6,3,0]) && zEG ops [0,7,8] (l9 9 [1,2,5,6,3,4])
theorem zGn{id:Nat}{o0 o1 o2 o3 o4 o5 o6 o7 o8:Oper}{S Sa Sb Sc Sd:St}{Q:Exit→St→Prop}(hm:P.follows .mixedOrders=true)(hrd:∀b,S.G b→b.rd=none)(hck:zLE [o0,o1,o2,o3,o4,o5,o6,o7,o8].toArray=true)
 (y1:AHoist P [o0,o1,o2,o3,o4,o5,o6,o7,o8].toArray o1 S Sa) (y2:AHoist P [o0,o1,o2,o3,o4,o5,o6,o7,o8].toArray o2 Sa Sb) (y5:AHoist P [o0,o1,o2,o3,o4,o5,o6,o7,o8].toArray o5 Sb Sc) (y6:AHoist P [o0,o1,o2,o3,o4,o5,o6,o7,o8].toArray o6 Sc Sd)
 (h0:AText P [o0,o1,o2,o3,o4,o5,o6,o7,o8].toArray [o0,o3,o4,o7,o8] Sd (Q .normal))
 (h3:AList P [o0,o1,o2,o3,o4,o5,o6,o7,o8].toArray [o3] [] Sd (fun _ S'=>AText P [o0,o1,o2,o3,o4,o5,o6,o7,o8].toArray [o0,o4,o7,o8] S' (Q .normal)∧AText P [o0,o1,o2,o3,o4,o5,o6,o7,o8].toArray [o4,o0,o7,o8] S' (Q .normal))):
 AWp P (.region id [o0,o1,o2,o3,o4,o5,o6,o7,o8].toArray true) Q S:=⟨fun b0 a w hR=>by
 generalize hops: [o0,o1,o2,o3,o4,o5,o6,o7,o8].toArray=ops at *;have e:∀k o,[o0,o1,o2,o3,o4,o5,o6,o7,o8][k]?=some o→ops[k]?=some o:=fun k o h=>by rw[←hops,List.getElem?_toArray];exact h
 have hsz:ops.size=9:=by rw[←hops];rfl
 obtain⟨σ,R0⟩:=hR
 have hrd0:b0.rd=none:=hrd b0 R0.gd
 simp only[zLE,Bool.and_eq_true,decide_eq_true_eq]at hck
 obtain⟨⟨⟨⟨⟨⟨⟨⟨⟨k0,ka,kb⟩,kc,kd⟩,ke,kf⟩,kg,kh⟩,ki⟩,kj⟩,kk⟩,kl⟩,km⟩:=hck
 let K:Exit→Act→World→Prop:=fun e a' w'=>e=.normal∧∃S',Rel b0 S' a' w'∧Q .normal S'
 have hK:∀e a w,K e a w→e=.normal:=fun e a w h=>h.1
 have hfin:∀S a w,Rel b0 S a w→Q .normal S→K .normal a w:=fun S a w h1 h2=>⟨rfl,S,h1,h2⟩
 refine wpIn_mono (Q:=K) ?_ (fun e a w ⟨h,h2⟩=>by subst h;exact h2)
 refine wpIn_region_any hm ?_;rw[hsz];refine zG8 hrd0 (e 1 o1 rfl) k0 ka kb y1 hK ⟨σ,R0.drew (Ext.refl w).drew⟩ fun a1 R1=> ?_
 refine zG8 hrd0 (e 2 o2 rfl) k0 kc kd y2 hK R1 fun a2 R2=> ?_
 refine zG8 hrd0 (e 5 o5 rfl) k0 ke kf y5 hK R2 fun a3 R3=> ?_
 refine zG8 hrd0 (e 6 o6 rfl) k0 kg kh y6 hK R3 fun a4 R4=> ?_
 have op:∀{i:Nat} {o:Oper} {os:List Oper} {a:Act} {w:World},ops[i]?=some o→wpListIn (fnc b0.rd) 0 P ops K (o::os) a w→wpOpIn (fnc b0.rd) 0 P ops K i (wpListIn (fnc b0.rd) 0 P ops K os) a w:=fun hi h=>by unfold wpOpIn;simp only[hi];exact h
 refine wpAnyIn_all ki (by simp) fun i hi=> ?_
 simp only[List.mem_cons,List.not_mem_nil,or_false]at hi
 rcases hi with rfl|rfl
 ·exact wpOpIn_mono (fun a' w' h'=>zHU [3,4,7,8] [o3,o4,o7,o8] _ a' w' (by simp only[List.map_cons,List.map_nil];rw[e 3 o3 rfl,e 4 o4 rfl,e 7 o7 rfl,e 8 o8 rfl]) kj h') (op (e 0 o0 rfl) (h0.get _ b0 a4 _ K R4 hfin))
 · -- the slice first
   have h3':=h3.get
   obtain⟨rd3,e3,hs3,hk3⟩:=h3'
   have hw3:wpOpIn (fnc b0.rd) 0 P ops K 3 (fun a' w'=>∃S',Rel b0 S' a' w'∧AText P ops [o0,o4,o7,o8] S' (Q .normal)∧AText P ops [o4,o0,o7,o8] S' (Q .normal)) a4 w.drew:=by
    unfold wpOpIn
    simp only[e 3 o3 rfl]
    rcases hs3.at R4 with ⟨hw,hg⟩|⟨hw,hR'⟩
    ·rw[if_pos hw]
     exact hg.wpIn fun v w' hR'=>⟨_,hR',hk3⟩
    ·rw[if_neg (by simp[hw])]
     exact⟨fun _ _=>trivial,_,hR',hk3⟩
   refine wpOpIn_mono (fun a5 w5 ⟨S5,R5,g1,g2⟩=> ?_) hw3;refine wpAnyIn_all kk (by simp) fun i hi=> ?_
   simp only[List.mem_cons,List.not_mem_nil,or_false]at hi
   rcases hi with rfl|rfl
   ·exact wpOpIn_mono (fun a' w' h'=>zHU [4,7,8] [o4,o7,o8] _ a' w' (by simp only[List.map_cons,List.map_nil];rw[e 4 o4 rfl,e 7 o7 rfl,e 8 o8 rfl]) kl h') (op (e 0 o0 rfl) (g1.get _ b0 a5 _ K R5 hfin))
   ·exact wpOpIn_mono (fun a' w' h'=>zHU [0,7,8] [o0,o7,o8] _ a' w' (by simp only[List.map_cons,List.map_nil];rw[e 0 o0 rfl,e 7 o7 rfl,e 8 o8 rfl]) km h') (op (e 4 o4 rfl) (g2.get _ b0 a5 _ K R5 hfin))⟩
def zJF(o:Nat)(y:CV):CV→CV
 | .pt id sz k j=>bif Nat.beq id o then y else .pt id sz k j
 |x=>x
def fiR(f m:Nat)(C:Nat→CV)(o:Nat):Nat→CV
 |0=>.any
 |d+1=>.fi f m (fun i=>zJF o (.pl 1 1 (lF [fiR f m C o d]) 0 0) (C i))
theorem zSA{o:Nat}{x y:CV}(h:zK x=true):zJF o y x=x:=by
 cases x<;>first|rfl|cases h
theorem zOS{c:Code}{Q:Exit→St→Prop}{S:St}{t o f m:Nat}{ty:TypeId}{C:Nat→CV}(d:Nat)(ht:S.t t=some (.c (.pt o 1 0 0)))(hh:S.h o=some ⟨false,1,1,ty,lF [.fn f m C]⟩)(hC:∀i,i<m→zK (C i)=true∨C i=.pt o 1 0 0)(ho:Nat.blt o 1000=true)
 (h:AWp P c Q {S with h:=put S.h o none,t:=put S.t t (some (.c (.pl 1 1 (lF [fiR f m C o d]) 0 0)))}):AWp P c Q S:=⟨fun b0 a w ⟨σ,R⟩=>by
 have ho:=Nat.blt_eq.mp ho
 obtain⟨v,e1,e2⟩:=R.hp.blk o _ hh
 have hne:S.h o≠none:=by rw[hh];simp
 obtain⟨b,cs,hv,hcs,u,hu1,hu2⟩:∃b cs,v=.pointer (some ⟨b,0,none⟩)∧w.heap[b]?=some (.cells cs ty (0,0))∧∃u,cs[0]?=some u∧RepC σ (out b0 σ S.h) w (.fn f m C) u:=by
  rcases e2 with ⟨h0,_⟩|⟨b,cap,cs,q1,q2,q3,q4⟩|⟨_,_,_,b,o',rfl,_,q5⟩
  ·cases h0
  ·rcases q1 with ⟨q1,_⟩|⟨_,q1,_⟩
   ·cases q1
   ·obtain⟨u,r1,r2⟩:=q4 0 (by show 0<1;omega) 0 (by show 0<1;omega)
    exact⟨b,cs,q1,q2,u,by simpa using r1,r2⟩
  ·rcases q5.2 with h|⟨K,h,_⟩<;>cases h
 subst hv
 obtain⟨hone,vs,f1,f2,f3⟩:=hu2
 have hcell:w.cell? ⟨b,0,none⟩=some u:=(cell_of_row w b 0 cs ty (0,0) hcs).trans hu1;have hob:own σ S.h b:=⟨o,_,hne,e1,rfl⟩
 let h':Nat→Option AB:=put S.h o none
 have hsub:∀i,h' i≠none→i≠o∧h' i=S.h i:=fun i hi=>by
  by_cases e:i=o
  ·subst e;exact absurd (zAk _ _ _) hi
  ·exact⟨e,zAa _ _ e⟩
 have hbo:¬out b0 σ h' b:=fun hb=>by
  rcases hb with ⟨i,v',k1,k2,k3⟩|hb
  ·obtain⟨g1,g2⟩:=hsub i k1
   exact g1 (R.hp.inj i o v' _ b (by rw[←g2];exact k1) hne k2 e1 k3 rfl)
  ·rcases R.hp.new b hob with h|h
   ·have:=b0.lt b hb;omega
   ·exact b0.dis b hb h
 obtain⟨H',hown⟩:=R.hp.part (h':=h') (fun i hi=>(hsub i hi).2) (fun i v hi=>by
  have h1:=(b0.one i v hi).1;have h2:=(R.hp.fx i v hi).2;show put S.h o none i≠none;rw[zAa _ _ (by omega)];exact h2)
 have hout:∀k,out b0 σ h' k→out b0 σ S.h k:=fun k hk=>hk.imp (hown k) id
 have key:∀d,RepI (out b0 σ h') w (fiR f m C o d) u:=fun d=>by
  induction d with
  |zero=>exact trivial
  | succ d ih=>
    refine⟨vs,f1,f2,fun i hi=> ?_⟩
    obtain⟨vi,g1,g2,g3⟩:=f3 i hi
    refine⟨vi,g1,g2,?_⟩
    show RepI _ w (zJF o (.pl 1 1 (lF [fiR f m C o d]) 0 0) (C i)) vi
    rcases hC i hi with hc|hc
    ·rw[zSA hc]
     have:RepC σ (out b0 σ S.h) w (C i) vi:=by
      refine⟨g2,?_⟩
      cases hCi:C i<;>rw[hCi]at hc g3<;>first|exact g3|cases hc
     exact(zBe hc this).less hout
    ·rw[hc]at g3⊢
     obtain⟨v',b',k1,k2,k3⟩:=g3
     rw[e1]at k1
     cases k1
     cases k2
     show RepI _ w (bif Nat.beq o o then _ else _) vi;rw[show Nat.beq o o=true from Nat.beq_refl o]
     refine⟨⟨b,0,none⟩,by rw[k3,zCw],by omega,fun k hk j hj=>⟨u,hbo,?_,hone,?_⟩⟩
     ·obtain rfl:k=0:=by omega
      obtain rfl:j=0:=by omega
      rw[zCw];exact hcell
     ·obtain rfl:k=0:=by omega
      obtain rfl:j=0:=by omega
      exact ih
 refine h.get b0 a w ⟨σ,R.df,R.sz,R.ext,H',fun t' x hx=> ?_,R.fr,R.le,R.gd,R.gh⟩;by_cases et:t'=t
 ·subst et
  have hx:put S.t t' (some (AV.c (.pl 1 1 (lF [fiR f m C o d]) 0 0))) t'=some x:=hx;rw[zAk]at hx
  cases hx
  obtain⟨k0,v',b',k1,k2,k3⟩:=R.sl t' _ ht
  rw[e1]at k1
  cases k1
  cases k2
  refine⟨k0,⟨b,0,none⟩,by rw[k3,zCw],by omega,fun k hk j hj=>⟨u,hbo,?_,hone,?_⟩⟩
  ·obtain rfl:k=0:=by omega
   obtain rfl:j=0:=by omega
   rw[zCw];exact hcell
  ·obtain rfl:k=0:=by omega
   obtain rfl:j=0:=by omega
   exact key d
 ·have hx:put S.t t (some (AV.c (.pl 1 1 (lF [fiR f m C o d]) 0 0))) t'=some x:=hx
  rw[zAa _ _ et]at hx
  exact(R.sl t' x hx).less hout⟩
end
end Go.AV
end
