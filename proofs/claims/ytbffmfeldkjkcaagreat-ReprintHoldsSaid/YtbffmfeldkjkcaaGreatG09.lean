/- Parts of the proof: Low, Img, ImgPutP, Same, ImgPut, AOld, ASet. -/
import Derived.Lib.Hide
import Derived.BigQuiet
import Derived.Deep.DrawnRows
import Derived.Test.YtbffmfeldkjkcaaGreatG08
set_option linter.unusedSimpArgs false
set_option linter.unusedVariables false
set_option maxHeartbeats 0
section
namespace Go.Proofs.YtbffmfeldkjkcaaGreat
open Go.RowKit Go.Flow
open Go.Proofs
attribute [local go_sem] zBu
attribute [local go_sem ↓] Go.wp_at_zero Go.wp_at_succ

theorem zF5{k:IntKind}{a b:Int}(h:a=b):Ending.returned (.int k a)=.returned (.int k b):=by rw[h]
theorem zNt{a b:Bool}(h:a=b):Ending.returned (.bool a)=.returned (.bool b):=by rw[h]

def zB3(n:Int):Bool:=decide (0≤n∧n≤96)

theorem zHt(n:Int)(w:World):
 Calls Tryz.prog 72 #[.int .i64 n] w fun e w'=>e=.returned (.bool (zB3 n))∧w=w':=by
 go_enter Tryz.func72,Tryz.ntmps72
 go_wp2
 all_goals go_ret
 all_goals exact⟨zNt (by unfold zB3;simp;omega),rfl⟩

theorem zJB(n:Int)(w:World):
 Calls Tryz.prog 74 #[.int .i64 n] w fun e w'=>e=.returned (.bool (zB3 n))∧w=w':=by
 go_enter Tryz.func74,Tryz.ntmps74
 go_wp2
 all_goals go_ret
 all_goals exact⟨zNt (by unfold zB3;simp;omega),rfl⟩

theorem sideB_iff{n:Int}:zB3 n=true↔0≤n∧n≤96:=by unfold zB3;simp
theorem zFu{W H:Int}(hW:0≤W∧W≤96)(hH:0≤H∧H≤96):0≤W*H∧W*H≤9216:=
 ⟨Int.mul_nonneg hW.1 hH.1,by have:=Int.mul_le_mul hW.2 hH.2 hH.1 (by omega:(0:Int)≤96);omega⟩

abbrev bmp(W H:Int)(A:Option Addr)(n c:Nat):Value:=.agg #[.int .i64 W,.int .i64 H,.slice A n c]
def chk(W H:Int)(n:Nat):Int:=if zB3 W && zB3 H then (if (n:Int)=W*H then 0 else 5)else 13

theorem okB{W H:Int}{n:Nat}(h:chk W H n=0):0≤W∧W≤96∧0≤H∧H≤96∧(n:Int)=W*H:=by
 unfold chk at h
 split at h
 ·rename_i h1
  simp only[Bool.and_eq_true,sideB_iff]at h1
  split at h
  ·exact⟨h1.1.1,h1.1.2,h1.2.1,h1.2.2,‹_›⟩
  ·omega
 ·omega

def zAu(W H:Int)(dot:Nat→Bool)(x y:Int):Bool:=if 0≤x∧x<W∧0≤y∧y<H then dot (y*W+x).toNat else false

theorem zEf(W H:Int)(A:Option Addr)(n c:Nat)(w:World):
 Calls Tryz.prog 61 #[bmp W H A n c] w fun e w'=>e=.returned (.int .i64 (chk W H n))∧Ext w w':=by
 have hfin:Ext w (w.alloc (.cells #[.int .i64 W,.int .i64 H,.slice A n c] 58)):=(Ext.refl w).alloc _
 replace hfin:=Lib.hid hfin
 cases hW:zB3 W
 ·have hr:chk W H n=13:=by simp[chk,hW]
  replace hr:=Lib.hid hr
  go_enter Tryz.func61,Tryz.ntmps61
  go_wp2_with (first|(go_at_call 72;refine(zHt _ _).mono ?_;rintro e w' ⟨rfl,rfl⟩))
  go_ret
  exact⟨zF5 hr.out.symm,hfin.out⟩
 cases hH:zB3 H
 ·have hr:chk W H n=13:=by simp[chk,hH]
  replace hr:=Lib.hid hr
  go_enter Tryz.func61,Tryz.ntmps61
  go_wp2_with (first|(go_at_call 72;refine(zHt _ _).mono ?_;rintro e w' ⟨rfl,rfl⟩))
  go_ret
  exact⟨zF5 hr.out.symm,hfin.out⟩
 have hb:=zFu (sideB_iff.1 hW) (sideB_iff.1 hH);have hr:chk W H n=if (n:Int)=W*H then 0 else 5:=by simp[chk,hH,hW]
 replace hr:=Lib.hid hr
 go_enter Tryz.func61,Tryz.ntmps61
 go_wp2_with (first|(go_at_call 72;refine(zHt _ _).mono ?_;rintro e w' ⟨rfl,rfl⟩))
 all_goals go_ret
 all_goals refine⟨?_,hfin.out⟩
 all_goals rw[hr.out]
 all_goals simp_all

theorem zOB(W H:Int)(A:Option Addr)(n c:Nat)(w:World):
 Calls Tryz.prog 51 #[bmp W H A n c] w fun e w'=>e=.returned (.int .i64 (chk W H n))∧Ext w w':=by
 have hfin:Ext w (w.alloc (.cells #[.int .i64 W,.int .i64 H,.slice A n c] 58)):=(Ext.refl w).alloc _
 replace hfin:=Lib.hid hfin
 cases hW:zB3 W
 ·have hr:chk W H n=13:=by simp[chk,hW]
  replace hr:=Lib.hid hr
  go_enter Tryz.func51,Tryz.ntmps51
  go_wp2_with (first|(go_at_call 74;refine(zJB _ _).mono ?_;rintro e w' ⟨rfl,rfl⟩))
  go_ret
  exact⟨zF5 hr.out.symm,hfin.out⟩
 cases hH:zB3 H
 ·have hr:chk W H n=13:=by simp[chk,hH]
  replace hr:=Lib.hid hr
  go_enter Tryz.func51,Tryz.ntmps51
  go_wp2_with (first|(go_at_call 74;refine(zJB _ _).mono ?_;rintro e w' ⟨rfl,rfl⟩))
  go_ret
  exact⟨zF5 hr.out.symm,hfin.out⟩
 have hb:=zFu (sideB_iff.1 hW) (sideB_iff.1 hH);have hr:chk W H n=if (n:Int)=W*H then 0 else 5:=by simp[chk,hH,hW]
 replace hr:=Lib.hid hr
 go_enter Tryz.func51,Tryz.ntmps51
 go_wp2_with (first|(go_at_call 74;refine(zJB _ _).mono ?_;rintro e w' ⟨rfl,rfl⟩))
 all_goals go_ret
 all_goals refine⟨?_,hfin.out⟩
 all_goals rw[hr.out]
 all_goals simp_all

theorem zOT(n m:Int)(hm:0<m)(hM:m≤1000000)(w:World):
 Calls Tryz.prog 12 #[.int .i64 n,.int .i64 m] w fun e w'=>e=.returned (.int .i64 (n%m))∧w=w':=by
 have h1:-m<n.tmod m:=by have:=Int.lt_tmod_of_pos n hm;omega
 have h2:n.tmod m<m:=Int.tmod_lt_of_pos n hm;have h3:(n.tmod m+m)%m=n%m:=by
  rw[Int.add_emod_right,Int.emod_def,Int.emod_def];have e1:=Int.mul_tdiv_add_tmod n m;have e2:n.tmod m=n-m*n.tdiv m:=by omega
  rw[e2,show n-m*n.tdiv m=n+m*(- n.tdiv m) by rw[Int.mul_neg];omega,Int.add_mul_ediv_left _ _ xD,Int.mul_add]
  omega
 replace h3:=Lib.hid h3
 go_enter Tryz.func12,Tryz.ntmps12
 go_wp2
 all_goals go_ret
 all_goals exact⟨zF5 (by rw[←h3.out];try simp),rfl⟩

def zBH(N:Nat)(f:Nat→Int)(at_:Nat)(m:Int):Int:=if at_<N then f at_%m else 0
def dat(N at_:Nat):Nat:=if at_<N then at_+1 else at_
attribute [local go_sem] zBu
attribute [local go_sem ↓] Go.wp_at_zero Go.wp_at_succ

def zJp(n:Nat)(f:Nat→Int):Prop:=∀k,k<n→0≤f k∧f k≤2
instance(n:Nat)(f:Nat→Int):Decidable (zJp n f):=by unfold zJp;infer_instance
def shI(W H:Int)(n:Nat):Prop:=0≤W∧W≤100∧0≤H∧H≤100∧(n:Int)=W*H
instance(W H:Int)(n:Nat):Decidable (shI W H n):=by unfold shI;infer_instance
def zPV(W H:Int)(n:Nat)(f:Nat→Int):Int:=if shI W H n then (if zJp n f then 0 else 50)else 50
end Go.Proofs.YtbffmfeldkjkcaaGreat
end
section
namespace Go.Proofs.YtbffmfeldkjkcaaGreat
open Go.RowKit Go.Flow
def zR6(dx dy:Int):Bool:=decide (-2≤dx∧dx≤2∧-2≤dy∧dy≤2)
def zRw(W H:Int)(n:Nat)(dx dy:Int):Int:=if chk W H n=0 then (if zR6 dx dy then 0 else 3)else chk W H n
def zRx(W H:Int)(dot:Nat→Bool)(dx dy:Int)(k:Nat):Int:=if zAu W H dot ((k:Int)%(W+4)-2-dx) ((k:Int)/(W+4)-2-dy)then 1 else 0
theorem zIZ{W H:Int}{dot:Nat→Bool}{x y:Int}(h1:0≤x)(h2:x<W)(h3:0≤y)(h4:y<H):zAu W H dot x y=dot (y*W+x).toNat:=by unfold zAu;rw[if_pos ⟨h1,h2,h3,h4⟩]
end Go.Proofs.YtbffmfeldkjkcaaGreat
end
section
namespace Go.Proofs.YtbffmfeldkjkcaaGreat
open Go.RowKit Go.Flow
open Go.Proofs
attribute [local go_sem] zBu
attribute [local go_sem ↓] Go.wp_at_zero Go.wp_at_succ

theorem zQK:(Tryz.prog.info? 4).map (fun i=>(i.zero,i.size,i.bytes))=some (some (.bool false),1,1):=by kernel_rfl
def zOU(W H:Int)(w:World)(e:Ending)(w':World):Prop:=
 ∃g n,e=.returned (.tuple #[bmp W H (some ⟨g,0,none⟩) n n,.int .i64 0])∧(n:Int)=W*H∧Flow.Own w' g 4 n (fun _=>.bool false)∧w.heap.size≤g∧Ext w w'

theorem zOV(W H:Int)(w:World)(hb:(zB3 W && zB3 H)=true):
 Calls Tryz.prog 46 #[.int .i64 W,.int .i64 H] w (zOU W H w):=by
 obtain⟨i0,hi,hz0,hz1,hz2⟩:=info_parts zQK
 simp only[Bool.and_eq_true]at hb
 obtain⟨hW,hH⟩:=hb
 have hbd:=zFu (sideB_iff.1 hW) (sideB_iff.1 hH)
 obtain⟨n,hn⟩:∃n:Nat,W*H=n:=⟨(W*H).toNat,by omega⟩
 have hn':=Lib.hid hn;clear hn
 go_enter Tryz.func46,Tryz.ntmps46
 go_wp2_with (first
  |(go_at_call 72;refine(zHt _ _).mono ?_;rintro e w' ⟨rfl,rfl⟩)
  |(at_make;refine zSY rfl (.tmp 19) (.tmp 19) 56 rfl 4 i0 (.bool false) Tryz.underlying56 hi hz0 hz1 rfl _ _ _ _ n rfl rfl hn'.out hn'.out (by rw[hz2];have:=hn'.out;omega) (by have:=hn'.out;omega) ?_))
 intro w1 hO hE
 obtain⟨hBc,hBf,hBl⟩:=((Blk.new w 58 #[.int .i64 0,.int .i64 0,.slice none 0 0]).ext hE).rules
 go_wp2
 refine bodyPost_ret (v:=.tuple #[bmp W H (some ⟨w.heap.size+1,0,none⟩) n n,.int .i64 0]) (by simp[results,Tryz.results46,go_sem, *]) rfl
  ⟨w.heap.size+1,n,rfl,hn'.out.symm,((hO.far ?_ _).far ?_ _).far ?_ _,by omega,((((Ext.refl w).alloc _).trans hE).setCell ?_ _ |>.setCell ?_ _ |>.setCell ?_ _)⟩<;>simp
end Go.Proofs.YtbffmfeldkjkcaaGreat
end
section
namespace Go.Flow
open Go Go.RowKit
def Mine(w:World)(base:Nat)(A:Option Addr)(t:TypeId)(n:Nat)(F:Nat→Value):Prop:=0<n→∃g,A=some ⟨g,0,none⟩∧base≤g∧∃cs,Blk w g t cs∧∀k,k<n→cs[k]?=some (F k)
section
variable{w w':World}{base n:Nat}{A:Option Addr}{t:TypeId}{F:Nat→Value}
theorem Mine.arr(h:Mine w base A t n F):Arr w A n F:=fun k hk=>by
 obtain⟨g,rfl,-,cs,hb,hc⟩:=h (by omega)
 exact⟨_,rfl,by rw[show(⟨g,0,none⟩:Addr).add k=⟨g,k,none⟩ by unfold Addr.add;split<;>simp_all,hb.cell];exact hc k hk⟩
theorem Mine.ext(h:Mine w base A t n F)(hE:Ext w w'):Mine w' base A t n F:=fun hn=>
 let ⟨g,e,hg,cs,hb,hc⟩:=h hn
 ⟨g,e,hg,cs,hb.ext hE,hc⟩
theorem zOS{g:Nat}(h:Flow.Own w g t n F)(hg:base≤g):Mine w base (some ⟨g,0,none⟩) t n F:=fun _=>
 let ⟨cs,hb,_,hc⟩:=h
 ⟨g,rfl,hg,cs,hb,hc⟩
theorem Mine.set_{p:Addr}(h:Mine w base A t n F)(hp:p.block<base)(u:Value):Mine (w.setCell p u) base A t n F:=fun hn=>
 let ⟨g,e,hg,cs,hb,hc⟩:=h hn
 ⟨g,e,hg,cs,hb.far (by omega) u,hc⟩
theorem Mine.congr{G:Nat→Value}(h:Mine w base A t n F)(hg:∀k,k<n→F k=G k):Mine w base A t n G:=fun hn=>
 let ⟨g,e,hb,cs,hc,hr⟩:=h hn
 ⟨g,e,hb,cs,hc,fun k hk=>by rw[hr k hk,hg k hk]⟩
theorem Mine.less{base':Nat}(h:Mine w base A t n F)(hb:base'≤base):Mine w base' A t n F:=fun hn=>
 let ⟨g,e,hg,r⟩:=h hn
 ⟨g,e,by omega,r⟩
end
end Go.Flow
namespace Go.Proofs.YtbffmfeldkjkcaaGreat
open Go.RowKit Go.Flow
open Go.Proofs
attribute [local go_sem] zBu
attribute [local go_sem ↓] Go.wp_at_zero Go.wp_at_succ

end Go.Proofs.YtbffmfeldkjkcaaGreat
end
section
namespace Go.AV
open Go Go.RowKit Go.Flow
abbrev iC(i:Int):CV:=.p (.int .i64 i)
abbrev bC(b:Bool):CV:=.p (.bool b)
abbrev iF(f:Nat→Int)(k _:Nat):CV:=.p (.int .i64 (f k))
abbrev bF(f:Nat→Bool)(k _:Nat):CV:=.p (.bool (f k))
section
variable{P:Program}
theorem ACalls.of{f:FuncId}{args:List V1}{r:AV}(h:∀(O:Nat→Prop) (w:World) (vals:List Value),(∀b,O b→b<w.heap.size)→RepL (RepV (fun _=>none) O w) args vals→
 Calls P f vals.toArray w fun e w'=>∃v,e=.returned v∧RepA (fun _=>none) O w' r v∧Ext w w'):ACalls P f args r:=fun b0 vals hH hle hY hv=>by
 have hfix:b0.fix=fun _=>none:=by
  funext i
  cases hf:b0.fix i with
  |none=>rfl
  | some v=>
    have h1:=hle i v hf;have h2:=(b0.one i v hf).1
    simp at h1
    omega
 rw[hfix]at hH hv hY;have hlt:∀b,out b0 (fun _=>none) (zD []) b→b<b0.w.heap.size:=fun b hb=>hb.elim (fun ⟨i,v,h1,_⟩=>absurd rfl h1) (b0.lt b)
 refine(h _ _ vals hlt hv).mono fun e w' ⟨v,h1,h2,h3⟩=>⟨v,h1,by rw[hfix];exact h2,?_,Keep.of_ext h3⟩
 rw[hfix]
 exact⟨fun i B hB=>(by cases hB),fun i j v1 v2 b hi=>absurd rfl hi,fun b ⟨i,v,h1,_⟩=>absurd rfl h1,fun i v hi=>(by rw[hfix]at hi;cases hi),fun _ _ _=>rfl⟩
theorem zFc{f:FuncId}{args:List V1}{v:Value}(hv:v.oneCell'=true)(h:∀(O:Nat→Prop) (w:World) (vals:List Value),RepL (RepV (fun _=>none) O w) args vals→Calls P f vals.toArray w fun e w'=>e=.returned v∧Ext w w'):ACalls P f args (.c (.p v)):=
 ACalls.of fun O w vals _ hr=>(h O w vals hr).mono fun e w' ⟨h1,h2⟩=>⟨v,h1,zCb hv,h2⟩
variable{σ:Nat→Option Value}{O:Nat→Prop}{w:World}{u:Value}{n:Nat}
theorem zRL{F:Nat→Nat→CV}{G:Nat→Value}(hF:∀k,F k 0=.p (G k))(h:RepC σ O w (.ls n 1 F) u):∃A c,u=.slice A n c∧n≤c∧Arr w A n G:=by
 obtain⟨-,A,c,rfl,hc,hx⟩:=h
 refine⟨A,c,rfl,hc,fun k hk=> ?_⟩
 obtain⟨ad,v,e1,e2,e3,e4,e5⟩:=hx k hk 0 (by omega)
 rw[hF]at e5;obtain rfl:v=G k:=e5
 exact⟨ad,e1,by simpa using e3⟩
theorem zRM{f:Nat→Bool}(h:RepC σ O w (.ls n 1 (bF f)) u):∃A c,u=.slice A n c∧n≤c∧zFj w A n f:=zRL (fun _=>rfl) h
theorem zRK{a b:Value}{x:CV}(h:RepV σ O w (.ag [.p a,.p b,x]) u):∃v,u=.agg #[a,b,v]∧RepC σ O w x v:=by
 obtain⟨vs,rfl,hl⟩:=h
 match vs,hl with
 | [p,q,r],⟨h1,h2,h3,_⟩=>
   obtain rfl:p=a:=h1.2;obtain rfl:q=b:=h2.2
   exact⟨r,rfl,h3⟩
theorem zQ3{base:Nat}{A:Option Addr}{t:TypeId}{c:Nat}{F:Nat→Nat→CV}{G:Nat→Value}(hF:∀k,F k 0=.p (G k))(h1:∀k,k<n→(G k).oneCell'=true)(hb:∀b,O b→b<base)(hc:n≤c)(h:Mine w base A t n G):RepC σ O w (.ls n 1 F) (.slice A n c):=by
 refine⟨rfl,A,c,rfl,hc,fun k hk j hj=> ?_⟩
 obtain⟨g,rfl,hg,cs,hB,hx⟩:=h (by omega)
 obtain rfl:j=0:=by omega
 refine⟨⟨g,0,none⟩,G k,rfl,fun ho=>by have:=hb _ ho;simp at this;omega,?_,h1 k hk,by rw[hF];rfl⟩
 rw[zCS]
 simpa using (hB.cell k).trans (hx k hk)
theorem zMW{sz:Nat}{F:Nat→Nat→CV}:RepC σ O w (.ls 0 sz F) (.slice none 0 0):=⟨rfl,none,0,rfl,Nat.le_refl _,fun k hk=>absurd hk (Nat.not_lt_zero _)⟩
end
end Go.AV
namespace Go.Proofs.YtbffmfeldkjkcaaGreat
open Go.RowKit Go.Flow Go.AV
abbrev zAz(W H:Int)(n:Nat)(f:Nat→Bool):List CV:= [iC W,iC H,.ls n 1 (bF f)]
theorem zF3{σ:Nat→Option Value}{O:Nat→Prop}{w:World}{u:Value}{W H:Int}{n:Nat}{f:Nat→Bool}(h:RepV σ O w (.ag (zAz W H n f)) u):∃A c,u=bmp W H A n c∧n≤c∧zFj w A n f:=by
 obtain⟨v,rfl,hv⟩:=zRK h
 obtain⟨A,c,rfl,h1,h2⟩:=zRM hv
 exact⟨A,c,rfl,h1,h2⟩
theorem zDk{σ:Nat→Option Value}{O:Nat→Prop}{w:World}{u v:Value}(h:RepV σ O w (.c (.p v)) u):u=v:=h.2
theorem zBd{R:V1→Value→Prop}{a:V1}{vals:List Value}(h:RepL R [a] vals):∃x,vals= [x]∧R a x:=by
 match vals,h with
 | [x],⟨h1,_⟩=>exact⟨x,rfl,h1⟩
theorem zLa{R:V1→Value→Prop}{a b:V1}{vals:List Value}(h:RepL R [a,b] vals):∃x y,vals= [x,y]∧R a x∧R b y:=by
 match vals,h with
 | [x,y],⟨h1,h2,_⟩=>exact⟨x,y,rfl,h1,h2⟩
theorem zPA{R:V1→Value→Prop}{a b c:V1}{vals:List Value}(h:RepL R [a,b,c] vals):∃x y z,vals= [x,y,z]∧R a x∧R b y∧R c z:=by
 match vals,h with
 | [x,y,z],⟨h1,h2,h3,_⟩=>exact⟨x,y,z,rfl,h1,h2,h3⟩
theorem zPB{R:V1→Value→Prop}{a b c d e:V1}{vals:List Value}(h:RepL R [a,b,c,d,e] vals):∃x y z t s,vals= [x,y,z,t,s]∧R a x∧R b y∧R c z∧R d t∧R e s:=by
 match vals,h with
 | [x,y,z,t,s],⟨h1,h2,h3,h4,h5,_⟩=>exact⟨x,y,z,t,s,rfl,h1,h2,h3,h4,h5⟩
end Go.Proofs.YtbffmfeldkjkcaaGreat
end
section
namespace Go.AV
open Go Go.RowKit Go.Flow
theorem zNM{n k:Nat}{f:Nat→Int}{e:Int}(g:Nat→Int)(h1:g k=e)(h2:∀i,¬i=k→g i=f i):∀i,i<n→∀j,j<1→zAw (iF f) k 0 1 [iC e] i j=iF g i j∧zM (zAw (iF f) k 0 1 [iC e] i j)=true:=fun i hi=>zAa (by
 have:zAw (iF f) k 0 1 [iC e] i 0=iF g i 0:=by
  unfold zAw;by_cases h:i=k
  ·subst h
   rw[Nat.beq_refl];exact congrArg iC h1.symm
  ·rw[show Nat.beq i k=false from Bool.eq_false_iff.2 fun h'=>h (Nat.eq_of_beq_eq_true h')]
   exact congrArg iC (h2 i h).symm
 exact⟨this,by rw[this];rfl⟩)
theorem zGb{n k:Nat}{f:Nat→Bool}{e:Bool}(g:Nat→Bool)(h1:g k=e)(h2:∀i,¬i=k→g i=f i):∀i,i<n→∀j,j<1→zAw (bF f) k 0 1 [bC e] i j=bF g i j∧zM (zAw (bF f) k 0 1 [bC e] i j)=true:=fun i hi=>zAa (by
 have:zAw (bF f) k 0 1 [bC e] i 0=bF g i 0:=by
  unfold zAw;by_cases h:i=k
  ·subst h
   rw[Nat.beq_refl];exact congrArg bC h1.symm
  ·rw[show Nat.beq i k=false from Bool.eq_false_iff.2 fun h'=>h (Nat.eq_of_beq_eq_true h')]
   exact congrArg bC (h2 i h).symm
 rw[this]
 exact⟨rfl,rfl⟩)
end Go.AV
end
