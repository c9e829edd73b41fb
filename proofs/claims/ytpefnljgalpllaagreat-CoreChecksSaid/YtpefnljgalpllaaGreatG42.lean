/- Parts of the proof: BmDots, BmCount. -/
import Derived.Test.YtpefnljgalpllaaGreatG16
import Derived.RangeFuncBound
import Derived.Shelf.RegionOpen
import Derived.OwnWalkIn
import Derived.LoopNIn
import Derived.LoopIn
set_option linter.unusedSimpArgs false
set_option linter.unusedVariables false
set_option maxHeartbeats 0
set_option maxRecDepth 100000
section
namespace Go.Proofs.YtpefnljgalpllaaGreat
open Go.RowKit Go.Shelf Go.Flow Go.Plain
open Go.Proofs
attribute [local go_sem] zBm
attribute [local go_sem] Oper.semAt_some

def zC8(m:Nat)(dot:Nat→Bool):(j:Nat)→j≤m→List (Fin m)
 |0,_=> []
 |j+1,h=>zC8 m dot j (Nat.le_of_succ_le h)++(if dot j then [⟨j,h⟩]else [])
theorem zOs{m:Nat}{dot:Nat→Bool}:∀(j:Nat) (h:j≤m),(zC8 m dot j h).length≤j
 |0,_=>Nat.le_refl _
 | j+1,h=>by
   have:=zOs (dot:=dot) j (Nat.le_of_succ_le h);unfold zC8;rw[List.length_append]
   split<;>simp<;>omega
theorem zOt{m:Nat}{dot:Nat→Bool}(j:Nat)(h:j+1≤m):zC8 m dot (j+1) h=zC8 m dot j (Nat.le_of_succ_le h)++(if dot j then [⟨j,h⟩]else []):=rfl
theorem zOr{m:Nat}{dot p:Nat→Bool}:∀(j:Nat) (h:j≤m),(((zC8 m dot j h).filter fun x=>p x.val).length:Int)=cnt (fun k=>dot k && p k) j
 |0,_=>rfl
 | j+1,h=>by
   have:=zOr (dot:=dot) (p:=p) j (Nat.le_of_succ_le h);rw[zOt,List.filter_append,List.length_append,zDd,←this]
   cases hd:dot j<;>cases hp:p j<;>simp[hp]

abbrev zEm(Wn k:Nat):Value:=.agg #[.int .i64 ((k:Int)%Wn),.int .i64 ((k:Int)/Wn)]

def Keep2(n₀ Bn:Nat)(W W':World):Prop:=Below n₀ W W'∧(Bn<W.heap.size→W'.heap[Bn]?=W.heap[Bn]?)
theorem Keep2.trans{n₀ Bn:Nat}{A B C:World}(h:Keep2 n₀ Bn A B)(k:Keep2 n₀ Bn B C):Keep2 n₀ Bn A C:=
 ⟨h.1.trans k.1,fun hb=>(k.2 (Nat.lt_of_lt_of_le hb h.1.size)).trans (h.2 hb)⟩
theorem Keep2.of_ext{n₀ Bn:Nat}{A B:World}(h:Ext A B)(hn:n₀≤A.heap.size):Keep2 n₀ Bn A B:=⟨Below.mono h hn,fun hb=>Below.block h Bn hb⟩
theorem Keep2.put{n₀ Bn:Nat}{w:World}(hn:n₀≤w.heap.size)(hb:Bn<w.heap.size)(W:World)(l:Nat)(o o':Obj)(hl:w.heap.size≤l)(h:W.heap[l]?=some o)(h1:o.isCells=false)(h2:o.isWalk=false):Keep2 n₀ Bn W (W.putObj l o'):=
 ⟨belowK_b hn W l o o' hl h h1 h2,fun _=>World.putObj_heap_other xD⟩
theorem Keep2.set_{n₀ Bn:Nat}{W:World}{p:Addr}(hp:n₀≤p.block)(hb:Bn≠p.block)(v:Value):Keep2 n₀ Bn W (W.setCell p v):=
 ⟨(Below.refl n₀ W).setCell hp v,fun _=>Below.heap_setCell W p v Bn hb⟩

theorem zQK(nd:Nat)(hn:1≤nd)(l Bn:Nat)(Wn Hn:Nat)(A:Option Addr)(m c:Nat)(dot:Nat→Bool)(hok:chk Wn Hn m=0)(w0 w:World)(hn0:w0.heap.size≤w.heap.size)(J Jx:List (Fin m)→World→Prop)
 (hY:∀pre (x:Fin m) W,J pre W→pre.length<m→YieldAt Fence.wide (nd-1) Tryz.prog l #[zEm Wn x.val] W fun e W'=>
   (e=.returned (.bool true)∧J (pre++ [x]) W'∧Keep2 w0.heap.size Bn W W')∨(e=.returned (.bool false)∧Jx (pre++ [x]) W'))
 (hJ:∀pre W W',J pre W→Ext W W'→J pre W')
 (hB:Blk w Bn 53 #[.int .i64 Wn,.int .i64 Hn,.slice A m c]) (hA:zDI w0 A m dot) (h0w:Below w0.heap.size w0 w) (W:World) (hb:Keep2 w0.heap.size Bn w W) (h0:J [] W):
 CallsIn Fence.wide nd Tryz.prog 124 #[.func (.yield l) #[] #[],.pointer (some ⟨Bn,0,none⟩)] W fun e W'=>(∃v,e=.returned v)∧
  ((∃ys,ys=zC8 m dot m (Nat.le_refl _)∧J ys W')∨(∃pre,(∃k h,pre=zC8 m dot k h)∧Jx pre W')):=by
 have e1:(chk Wn Hn m !=0)=false:=by simp[hok]
 have hkw:=okB hok;have hm1:m≤9216:=by have:=zEg ⟨hkw.1,hkw.2.1⟩ ⟨hkw.2.2.1,hkw.2.2.2.1⟩;have:=hkw.2.2.2.2;omega
 have hkm:=hkw.2.2.2.2
 obtain⟨-,hw2,-,-,-⟩:=hkw
 replace hok:=Lib.hid hok
 replace hkm:=Lib.hid hkm
 have hR:∀V,Keep2 w0.heap.size Bn w V→(∀i,V.cell? ⟨Bn,i,none⟩= #[.int .i64 Wn,.int .i64 Hn,.slice A m c][i]?)∧Bn<V.heap.size:=fun V hV=>
  have hBV:Blk V Bn 53 #[.int .i64 Wn,.int .i64 Hn,.slice A m c]:=(hV.2 hB.lt).trans hB
  ⟨hBV.cell,hBV.lt⟩
 replace hR:=Lib.hid hR
 have hbl:=hB.lt
 obtain⟨hBc,hBl⟩:=hR.out W hb
 refine callsIn_of_wp Tryz.func124 rfl trivial ?_ rfl
 simp only[Tryz.ntmps124,List.size_toArray,List.length_cons,List.length_nil,Nat.reduceAdd,Nat.reduceSub,Array.replicate_succ,Array.replicate_zero,List.push_toArray,List.append_toArray,List.nil_append,List.cons_append]
 gi_wp2
 refine⟨trivial,callsIn_wide.2 ((zKK Wn Hn A m c W).mono ?_)⟩
 rintro e w1 ⟨rfl,hE1⟩
 replace h0:=hJ _ _ _ h0 hE1
 have hb1:=hb.trans (Keep2.of_ext hE1 (Nat.le_trans hn0 hb.1.size));clear hBc hBl
 obtain⟨hBc,hBl⟩:=hR.out w1 hb1
 gi_wp2
 gi_loopw [11] (fun i wr=>∃(k:Nat) (h:k≤m),i=.int .i64 k∧J (zC8 m dot k h) wr∧Keep2 w0.heap.size Bn w wr) (fun i _=>m-(intOf i).toNat)
 case atStart=>exact⟨0,Nat.zero_le _,rfl,h0,hb1⟩
 case round=>
  clear hBc hBl h0 hb1 hE1 hb
  obtain⟨k,hk,rfl,hJs,hbr⟩:=hrel
  have hlen:=zOs (dot:=dot) k hk
  obtain⟨hBc,hBl⟩:=hR.out wr hbr
  by_cases hlt:k<m
  ·have hlt':(k:Int)<m:=by omega
   have hs:=Lib.hid (zOt (dot:=dot) k hlt)
   obtain⟨ad,rfl,hc⟩:=hA k hlt
   have hcx:wr.cell? (ad.add k)=some (.bool (dot k)):=((h0w.trans hbr.1).cell (p:=ad.add k) (zI8 hc |> (by rw[zBm];exact ·))).trans hc
   have hcl:ad.block<wr.heap.size:=Nat.lt_of_lt_of_le (zI8 hc) (h0w.trans hbr.1).size;clear hc
   replace hbr:=Lib.hid hbr
   have hJr:=Lib.hid (fun V (hV:Ext wr V)=>hJ _ _ _ hJs hV);clear hJs;generalize hd:dot k=on at *
   cases on
   ·replace hd:=Lib.hid hd
    gi_wp2
    refine Flow.wpIn_flow Flow.Wide.wide 15 [(0,true),(1,true),(2,true),(3,true),(4,true),(5,true),(6,true),(7,true),(8,true),(9,true),(10,true),(11,true),(12,true),(13,true),(14,true)] xC xC ?_
    simp only[List.map_cons,List.map_nil,List.getD_cons_succ,List.getD_cons_zero]
    repeat (first
     | (refine Flow.WalkL.move rfl ?_
        simp only[Act.put,Act.eval,Array.getD_eq_getD_getElem?,List.getElem?_toArray,List.getElem?_cons_succ,List.getElem?_cons_zero,Option.getD_some,List.setIfInBounds_toArray,List.set_cons_zero,List.set_cons_succ])
     | (refine Flow.WalkL.assign rfl ?_
        simp only[Act.put,Act.eval,Array.getD_eq_getD_getElem?,List.getElem?_toArray,List.getElem?_cons_succ,List.getElem?_cons_zero,Option.getD_some,List.setIfInBounds_toArray,List.set_cons_zero,List.set_cons_succ])
     | (refine Flow.WalkL.run (v:= ?_) rfl (fun w1 hC=> ?_) ?_
        rotate_left
        ·obtain⟨hCc,hCf⟩:=hC.rules
         go_simp
         with_reducible rfl
        simp only[Act.put,List.setIfInBounds_toArray,List.set_cons_zero,List.set_cons_succ]))
    repeat (refine Flow.WalkL.skip rfl ?_;simp only[Act.put,List.setIfInBounds_toArray,List.set_cons_zero,List.set_cons_succ])
    repeat (first
     | (refine Flow.WalkL.move rfl ?_
        simp only[Act.put,Act.eval,Array.getD_eq_getD_getElem?,List.getElem?_toArray,List.getElem?_cons_succ,List.getElem?_cons_zero,Option.getD_some,List.setIfInBounds_toArray,List.set_cons_zero,List.set_cons_succ])
     | (refine Flow.WalkL.assign rfl ?_
        simp only[Act.put,Act.eval,Array.getD_eq_getD_getElem?,List.getElem?_toArray,List.getElem?_cons_succ,List.getElem?_cons_zero,Option.getD_some,List.setIfInBounds_toArray,List.set_cons_zero,List.set_cons_succ])
     | (refine Flow.WalkL.run (v:= ?_) rfl (fun w1 hC=> ?_) ?_
        rotate_left
        ·obtain⟨hCc,hCf⟩:=hC.rules
         go_simp
         with_reducible rfl
        simp only[Act.put,List.setIfInBounds_toArray,List.set_cons_zero,List.set_cons_succ]))
    refine Flow.WalkL.nil ?_
    simp only[List.drop]
    intro w2 hE2;have hJ2:=hJr.out _ hE2;have hb2:=hbr.out.trans (Keep2.of_ext hE2 (Nat.le_trans hn0 hbr.out.1.size))
    gi_wp2
    exact⟨⟨k+1,hlt,by go_num,by rw[hs.out];simpa using hJ2,hb2⟩,by simp only[intOf];omega⟩
   ·replace hd:=Lib.hid hd
    have hw0:(0:Int)<(Wn:Int):=by
     rcases Int.lt_or_le 0 (Wn:Int)with h1|h1
     ·exact h1
     ·have h:=hkm.out;rw[show(Wn:Int)=0 by omega,Int.zero_mul]at h;omega
    have hr0:=Int.emod_nonneg (k:Int) (show(Wn:Int)≠0 by omega);have hr1:=Int.emod_lt_of_pos (k:Int) hw0;have hq0:0≤(k:Int)/Wn:=Int.ediv_nonneg xD xD;have hq1:(k:Int)/Wn≤k:=Int.ediv_le_self _ xD;have hmd:(k:Int).tmod Wn=(k:Int)%Wn:=Int.tmod_eq_emod_of_nonneg xD;have hdv:(k:Int).tdiv Wn=(k:Int)/Wn:=Int.tdiv_eq_ediv_of_nonneg xD;have hwn:Wn≠0:=by omega
    have hwq:IntKind.i64.wrap ((k:Int)/Wn)=(k:Int)/Wn:=by rw[IntKind.wrap_i64];omega
    gi_wp2
    refine Flow.wpIn_flow Flow.Wide.wide 12 [(0,true),(1,true),(2,true),(3,true),(4,true),(5,true),(6,true),(7,true),(8,true),(9,true),(10,true),(11,true)] xC xC ?_
    simp only[List.map_cons,List.map_nil,List.getD_cons_succ,List.getD_cons_zero]
    repeat (first
     | (refine Flow.WalkL.move rfl ?_
        simp only[Act.put,Act.eval,Array.getD_eq_getD_getElem?,List.getElem?_toArray,List.getElem?_cons_succ,List.getElem?_cons_zero,Option.getD_some,List.setIfInBounds_toArray,List.set_cons_zero,List.set_cons_succ])
     | (refine Flow.WalkL.assign rfl ?_
        simp only[Act.put,Act.eval,Array.getD_eq_getD_getElem?,List.getElem?_toArray,List.getElem?_cons_succ,List.getElem?_cons_zero,Option.getD_some,List.setIfInBounds_toArray,List.set_cons_zero,List.set_cons_succ])
     | (refine Flow.WalkL.run (v:= ?_) rfl (fun w1 hC=> ?_) ?_
        rotate_left
        ·obtain⟨hCc,hCf⟩:=hC.rules
         go_simp
         with_reducible rfl
        simp only[Act.put,List.setIfInBounds_toArray,List.set_cons_zero,List.set_cons_succ]))
    refine Flow.WalkL.nil ?_
    simp only[List.drop]
    intro w2 hE2;have hJ2:=hJr.out _ hE2;have hb2:=Lib.hid (hbr.out.trans (Keep2.of_ext hE2 (Nat.le_trans hn0 hbr.out.1.size)))
    obtain⟨fn,tmps,assign,body,hy,hRd⟩:=hY _ ⟨k,hlt⟩ w2 hJ2 xD
    clear hmd hdv hwq hr0 hr1 hq0 hq1 hBc hcx
    gi_wp2
    refine hRd.mono ?_
    rintro e W3 (⟨rfl,hJ3,hk3⟩|⟨rfl,hJx3⟩)
    ·have hb3:=hb2.out.trans hk3
     gi_wp2
     exact⟨⟨k+1,hlt,by go_num,by rw[hs.out];simpa using hJ3,hb3⟩,by simp only[intOf];omega⟩
    ·gi_wp2
     refine bodyPost_ret (results_none rfl _ _ _) rfl ?_
     exact⟨⟨_,rfl⟩,.inr ⟨_,⟨k+1,hlt,by rw[hs.out];rfl⟩,hJx3⟩⟩
  ·obtain rfl:k=m:=by omega
   gi_wp2
   go_end0
   exact⟨⟨_,rfl⟩,.inl ⟨_,rfl,hJs⟩⟩

theorem zQL(W H:Int)(A:Option Addr)(m c:Nat)(w:World):
 Calls Tryz.prog 118 #[bmp W H A m c] w fun e w'=>e=.returned (.func (.func 124) #[] #[.pointer (some ⟨w.heap.size,0,none⟩)])∧w.alloc (.cells #[.int .i64 W,.int .i64 H,.slice A m c] 53)=w':=by
 go_enter Tryz.func118,Tryz.ntmps118
 go_wp2
 go_ret
 exact⟨rfl,rfl⟩

theorem zQM(nd:Nat)(hn:1≤nd)(Bn:Nat)(Wn Hn:Nat)(A:Option Addr)(m c:Nat)(dot:Nat→Bool)(hok:chk Wn Hn m=0)(w0 w:World)(h0w:Below w0.heap.size w0 w)
 (hB:Blk w Bn 53 #[.int .i64 Wn,.int .i64 Hn,.slice A m c]) (hA:zDI w0 A m dot):
 SeqStopsK Fence.wide nd Tryz.prog 124 #[.pointer (some ⟨Bn,0,none⟩)] (fun x:Fin m=> #[zEm Wn x.val]) (Keep2 w0.heap.size Bn) (fun ys=>ys=zC8 m dot m (Nat.le_refl _)) (fun pre=>∃k h,pre=zC8 m dot k h) m w:=
 fun l J Jx W hW hJ _ hY h0=>zQK nd hn l Bn Wn Hn A m c dot hok w0 w h0w.size J Jx hY (fun pre V V' hs hE=>hJ pre V V' none hs ⟨hE.os,hE.tape,hE.output,hE.size,fun i hi _=>Below.block hE i hi⟩ (fun r e=>by cases e)) hB hA h0w W (Keep2.of_ext hW h0w.size) h0
attribute [local go_sem] zBm
attribute [local go_sem] Oper.semAt_some

theorem zIq{β:Type}(B:Nat)(t:TypeId)(f:β→Array Value):Own (fun s W=>Blk W B t (f s)):=fun s X Y row hs hg hrow=>
 (hg.block B (Blk.lt hs) (fun e'=>by obtain⟨o,ho,hc⟩:=hrow B e'.symm;rw[show X.heap[B]?=_ from hs]at ho;cases ho;cases hc)).trans hs

theorem zQD(Wn Hn:Nat)(A:Option Addr)(m c:Nat)(dot:Nat→Bool)(hok:chk Wn Hn m=0)(fv:FuncId)(cap:Array Value)(p:Nat→Bool)(w:World)(hA:zDI w A m dot)
 (he:∀args w,(callFunc fv args).run Tryz.prog w=.ok (.enter fv args) w)
 (hh:∀k,k<m→∀w1,Ext w w1→Calls Tryz.prog fv (#[zEm Wn k]++cap) w1 fun e w'=>e=.returned (.bool (p k))∧Ext w1 w'):
 Calls Tryz.prog 98 #[bmp Wn Hn A m c,.func (.func fv) #[] cap] w fun e w'=>e=.returned (.int .i64 (cnt (fun k=>dot k && p k) m))∧Ext w w':=by
 refine(callsIn_wide (n:=5)).1 ?_
 refine callsIn_of_wp_marks Tryz.func98 rfl trivial ?_ rfl
 simp only[Tryz.ntmps98,List.size_toArray,List.length_cons,List.length_nil,Nat.reduceAdd,Nat.reduceSub,Array.replicate_succ,Array.replicate_zero,List.push_toArray,List.append_toArray,List.nil_append,List.cons_append]
 gi_wp2
 refine⟨trivial,callsIn_wide.2 ((zQL Wn Hn A m c _).mono ?_)⟩
 rintro e w1 ⟨rfl,hw1⟩
 have bP:Blk w1 (w.heap.size+1) 156 #[.func (.func fv) #[] cap]:=by
  subst hw1;exact((zGo (by simp) _ _).alloc _).alloc _
 have bN:Blk w1 (w.heap.size+1+1) 3 #[.int .i64 0]:=by
  subst hw1;exact(zGo (by simp) _ _).alloc _
 have bB:Blk w1 (w.heap.size+1+1+1) 53 #[.int .i64 Wn,.int .i64 Hn,.slice A m c]:=by
  subst hw1;exact zGo (by simp) _ _
 have hE:Ext w w1:=by subst hw1;exact(((Ext.refl w).alloc _).alloc _ |>.alloc _).alloc _
 have hsz:w1.heap.size=w.heap.size+4:=by subst hw1;simp
 clear hw1
 gi_wp2
 have hlen:m≤9216:=by
  have hkw:=okB hok;have:=zEg ⟨hkw.1,hkw.2.1⟩ ⟨hkw.2.2.1,hkw.2.2.2.1⟩;have:=hkw.2.2.2.2;omega
 refine wpIn_rangeFunc_ownH (F:=Fence.wide) rfl xD (gf:=124) (lb:= #[.pointer (some ⟨w.heap.size+1+1+1,0,none⟩)]) rfl trivial (enters_of Tryz.func124 xC rfl)
  (zQM (5-1) xD (w.heap.size+1+1+1) Wn Hn A m c dot hok w w1 hE bB hA) Keep2.trans (Keep2.put xD xD) (Below.refl _ _) (fun _=>rfl)
  (fun pre W=>(Blk W (w.heap.size+1) 156 #[.func (.func fv) #[] cap]∧Blk W (w.heap.size+1+1) 3 #[.int .i64 ((pre.filter fun x:Fin m=>p x.val).length:Int)])∧Below w.heap.size w W)
  (fun _ _ _=>False)
  (OwnFrom.and (OwnFrom.and (Own.from (zIq _ _ _) _) (Own.from (zIq _ _ _) _)) (ownFrom_below (Nat.le_refl _) xD))
  (fun _ _ _ _ _ hs _ _=>hs)
  ⟨⟨bP,bN⟩,hE⟩
  (fun x a' W=>∃Bx,w.heap.size+1+1<Bx∧Blk W Bx 154 #[.int .i64 ((x.val:Int)%Wn),.int .i64 ((x.val:Int)/Wn)]∧a'={tmps:= #[bmp Wn Hn A m c,.func (.func fv) #[] cap,.pointer (some ⟨w.heap.size,0,none⟩),.pointer (some ⟨w.heap.size+1,0,none⟩),.int .i64 0,.pointer (some ⟨w.heap.size+1+1,0,none⟩),.pointer (some ⟨Bx,0,none⟩),bmp Wn Hn A m c,.func (.func 124) #[] #[.pointer (some ⟨w.heap.size+1+1+1,0,none⟩)],zEm Wn x.val,undef,undef,undef,undef,undef,undef],defers:= []})
  (fun x a' _ X Y row hs hg hr=>by obtain⟨Bx,h1,h2,h3⟩:=hs;exact⟨Bx,h1,zIq Bx 154 (fun (_:Unit)=> #[Value.int .i64 ((x.val:Int)%Wn),.int .i64 ((x.val:Int)/Wn)]) () X Y row h2 hg (fun r e=>(hr r e).2),h3⟩)
  ?assign ?body ?done ?stop
 case assign=>
  rintro l pre x W K ⟨⟨bP1,bN1⟩,hB1⟩ hK
  gi_wp2
  exact hK _ _ ((KeepsOthers.alloc _ _).from _) (Keep2.of_ext ((Ext.refl W).alloc _) hB1.size) ⟨⟨bP1.alloc _,bN1.alloc _⟩,hB1.alloc hB1.size _⟩ ⟨W.heap.size,bN1.lt,Blk.new W _ _,rfl⟩
 case body=>
  rintro l pre x a' W hl ⟨r,hr⟩ ⟨⟨bP1,bN1⟩,hB1⟩ ⟨Bx,hBx,bX,rfl⟩ hlt
  obtain⟨pc,pf,pl⟩:=bP1.rules
  obtain⟨xc,xf,xl⟩:=bX.rules
  have hEW:Ext w W:=hB1;have hcnt:(pre.filter fun x:Fin m=>p x.val).length≤m:=Nat.le_trans (List.length_filter_le _ _) (Nat.le_of_lt hlt)
  cases hp:p x.val
  ·gi_wp2
   refine⟨trivial,CallsIn.inRound l (callsIn_wide.2 ((hh x.val x.isLt W hEW).mono ?_))⟩
   rintro e W2 ⟨rfl,hE2⟩
   rw[hp]
   gi_wp2
   have hX:(pre++ [x]).filter (fun x:Fin m=>p x.val)=pre.filter (fun x:Fin m=>p x.val):=by simp[hp]
   exact⟨KeepsFrom.of_grownBy (zMF hE2 none) (fun j e=>by cases e),Keep2.of_ext hE2 hB1.size,⟨bP1.ext hE2,by rw[hX];exact bN1.ext hE2⟩,hEW.trans hE2⟩
  ·gi_wp2
   refine⟨trivial,CallsIn.inRound l (callsIn_wide.2 ((hh x.val x.isLt W hEW).mono ?_))⟩
   rintro e W2 ⟨rfl,hE2⟩
   rw[hp];have bN2:=bN1.ext hE2
   obtain⟨nc,nf,nl⟩:=bN2.rules
   clear pc pf pl xc xf xl
   gi_wp2
   have hX:((pre++ [x]).filter (fun x:Fin m=>p x.val)).length=(pre.filter (fun x:Fin m=>p x.val)).length+1:=by simp[hp]
   exact⟨(KeepsFrom.of_grownBy (zMF hE2 none) (fun j e=>by cases e)).trans ((KeepsOthers.setCell _ _ _).from _),(Keep2.of_ext hE2 hB1.size).trans (Keep2.set_ (by simp;omega) (by simp) _),
    ⟨(bP1.ext hE2).far (by simp) _,by rw[hX];exact bN2.set_ 0 _⟩,(hEW.trans hE2).setCell (by simp;omega) _⟩
 case done=>
  rintro D zs W hD rfl ⟨⟨bP1,bN1⟩,hB1⟩ hK
  obtain⟨nc,nf,nl⟩:=bN1.rules
  rw[zOr]at nc
  gi_wp2
  refine⟨by simp,.inl ⟨_,_,rfl,run_takeDeferred hK,?_⟩⟩
  exact⟨_,results_tmp rfl _ _ _,rfl,hB1.trans (belowK_b (w:=w) (Nat.le_refl _) W D _ _ xD hK rfl rfl)⟩
 case stop=>
  rintro D c pre W _ _ h _
  exact h.elim
end Go.Proofs.YtpefnljgalpllaaGreat
end
