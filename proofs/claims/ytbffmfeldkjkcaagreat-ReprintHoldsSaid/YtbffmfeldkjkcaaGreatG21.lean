/- Parts of the proof: RbCrop, A24y. -/
import Derived.Test.YtbffmfeldkjkcaaGreatG20
set_option linter.unusedSimpArgs false
set_option linter.unusedVariables false
set_option maxHeartbeats 0
set_option maxRecDepth 100000
section
namespace Go.Proofs.YtbffmfeldkjkcaaGreat
open Go.RowKit Go.Flow
open Go.Proofs
attribute [local go_sem] zBu
attribute [local go_sem ↓] Go.wp_at_zero Go.wp_at_succ

def zDj(W H:Nat)(dot:Nat→Bool)(x y:Int)(wn:Nat)(k:Nat):Bool:=zAu W H dot (x+((k%wn:Nat):Int)) (y+((k/wn:Nat):Int))
def zH0(W H:Nat)(dot:Nat→Bool)(x y:Int)(wn hn:Nat)(w:World)(e:Ending)(W':World):Prop:=
 ∃g m,e=.returned (.tuple #[bmp wn hn (some ⟨g,0,none⟩) m m,.int .i64 0])∧m=wn*hn∧Flow.Own W' g 4 m (fun k=>.bool (zDj W H dot x y wn k))∧w.heap.size≤g∧Ext w W'

theorem zOY(W H:Nat)(A:Option Addr)(n c:Nat)(dot:Nat→Bool)(x y:Int)(wn hn:Nat)(w:World)(hok:chk W H n=0)(hA:zFj w A n dot)(hx:-1000≤x∧x≤1000)(hy:-1000≤y∧y≤1000)
 (hw:wn≤96) (hh:hn≤96):
 Calls Tryz.prog 47 #[bmp W H A n c,.int .i64 x,.int .i64 y,.int .i64 wn,.int .i64 hn] w (zH0 W H dot x y wn hn w):=by
 have hP:∀(e:Ending) (W':World),(∃g m,e=.returned (.tuple #[bmp wn hn (some ⟨g,0,none⟩) m m,.int .i64 0])∧m=wn*hn∧Flow.Own W' g 4 m (fun k=>.bool (zDj W H dot x y wn k))∧w.heap.size≤g∧Ext w W')→zH0 W H dot x y wn hn w e W':=fun _ _ h=>h
 replace hP:=Lib.hid hP
 obtain⟨hx1,hx2⟩:=hx
 obtain⟨hy1,hy2⟩:=hy
 have hsd:(zB3 wn && zB3 hn)=true:=by rw[sideB_iff.2 ⟨by omega,by omega⟩,sideB_iff.2 ⟨by omega,by omega⟩];rfl
 replace hsd:=Lib.hid hsd
 have e1:(chk W H n !=0)=false:=by simp[hok]
 replace hok:=Lib.hid hok
 go_enter Tryz.func47,Tryz.ntmps47
 go_wp2_with fail
 refine(zEf W H A n c _).mono ?_
 rintro e w1 ⟨rfl,hE1⟩
 have hP1:=Lib.hid (((Blk.new w 58 #[.int .i64 W,.int .i64 H,.slice A n c]).alloc (.cells #[.int .i64 0,.int .i64 0,.slice none 0 0] 58)).ext hE1);have hR1:=Lib.hid ((zOz (g:=w.heap.size+1) (w:=w.alloc (.cells #[.int .i64 W,.int .i64 H,.slice A n c] 58)) (by simp) 58 #[.int .i64 0,.int .i64 0,.slice none 0 0]).ext hE1)
 replace hE1:=Lib.hid ((((Ext.refl w).alloc _).alloc _).trans hE1)
 go_wp2_with fail
 refine(zOV wn hn w1 hsd.out).mono ?_
 rintro e w2 ⟨g,m,rfl,hm,hO,hg,hE2⟩
 have hm':m=wn*hn:=by exact_mod_cast hm
 have hmb:m≤9216:=by rw[hm'];exact Nat.mul_le_mul hw hh
 have hP2:=Lib.hid (hP1.out.ext hE2);have hR2:=Lib.hid (hR1.out.ext hE2);have hgl:=hO.lt;have hl1:=hP1.out.lt;have hl2:=hR1.out.lt
 replace hE2:=Lib.hid (hE1.out.trans hE2)
 replace hm':=Lib.hid hm'
 clear hP1 hR1 hE1 hm
 replace hO:=Lib.hid hO
 go_wp2_with fail
 go_loopw [14] (fun j wr=>∃s:Nat,s≤hn∧j=.int .i64 s∧Blk wr w.heap.size 58 #[.int .i64 W,.int .i64 H,.slice A n c]∧Blk wr (w.heap.size+1) 58 #[.int .i64 0,.int .i64 0,.slice none 0 0]∧
  Blk wr w2.heap.size 58 #[.int .i64 wn,.int .i64 hn,.slice (some ⟨g,0,none⟩) m m]∧Flow.Own wr g 4 m (fun q=>.bool (if q<s*wn then zDj W H dot x y wn q else false))∧Ext w wr) (fun j _=>hn-(intOf j).toNat)
 case atStart=>exact⟨0,by omega,rfl,hP2.out.alloc _,hR2.out.alloc _,Blk.new _ _ _,(hO.out.ext ((Ext.refl _).alloc _)).congr (fun j _=>by simp),hE2.out.alloc _⟩
 case round=>
  clear hO hP2 hR2 hE2
  obtain⟨s,hs,rfl,hPb,hRb,hTb,hO,hE⟩:=hrel
  by_cases hlt:s<hn
  ·have hlt':(s:Int)<hn:=by omega
   replace hPb:=Lib.hid hPb
   replace hRb:=Lib.hid hRb
   replace hTb:=Lib.hid hTb
   replace hO:=Lib.hid hO
   replace hE:=Lib.hid hE
   go_wp2_with fail
   obtain⟨w9,rfl⟩:∃w9:World,w9=wr:=⟨_,rfl⟩
   have hsw:s*wn+wn≤m:=by
    rw[hm'.out];have h1:(s+1)*wn≤hn*wn:=Nat.mul_le_mul xD (Nat.le_refl _);rw[Nat.add_mul,Nat.one_mul,Nat.mul_comm hn wn]at h1;exact h1
   obtain⟨P,hPP⟩:∃P,s*wn=P:=⟨_,rfl⟩
   have hpj:(s:Int)*(wn:Int)=(P:Int):=by rw[←hPP];exact(Int.natCast_mul _ _).symm
   rw[hPP]at hsw hO
   replace hPP:=Lib.hid hPP
   go_loopw [15] (fun i wr=>∃t:Nat,t≤wn∧i=.int .i64 t∧Blk wr w.heap.size 58 #[.int .i64 W,.int .i64 H,.slice A n c]∧Blk wr (w.heap.size+1) 58 #[.int .i64 0,.int .i64 0,.slice none 0 0]∧
    Blk wr w2.heap.size 58 #[.int .i64 wn,.int .i64 hn,.slice (some ⟨g,0,none⟩) m m]∧Flow.Own wr g 4 m (fun q=>.bool (if q<P+t then zDj W H dot x y wn q else false))∧Ext w wr) (fun i _=>wn-(intOf i).toNat)
   case atStart=>exact⟨0,by omega,rfl,hPb.out,hRb.out,hTb.out,hO.out,hE.out⟩
   case round=>
    clear hPb hRb hTb hO hE
    obtain⟨t,ht,rfl,hPb,hRb,hTb,hO,hE⟩:=hrel
    obtain⟨pc,pf,pl⟩:=hPb.rules
    obtain⟨tc,tf,tl⟩:=hTb.rules
    by_cases hxt:t<wn
    ·have hxt':(t:Int)<wn:=by omega
     obtain⟨k,hk⟩:∃k,P+t=k:=⟨_,rfl⟩
     have hki:(P:Int)+(t:Int)=(k:Int):=by omega
     have hkm:k<m:=by omega
     have hkm':(k:Int)<m:=by omega
     have hgc:=hO.cell hkm;have hgf:=hO.frozen k;have hgl':=hO.lt;have hw1:IntKind.i64.wrap (P:Int)=(P:Int):=by rw[IntKind.wrap_i64];omega
     have hw2:IntKind.i64.wrap (k:Int)=(k:Int):=by rw[IntKind.wrap_i64];omega
     have hwx:IntKind.i64.wrap (x+(t:Int))=x+(t:Int):=by rw[IntKind.wrap_i64];omega
     have hwy:IntKind.i64.wrap (y+(s:Int))=y+(s:Int):=by rw[IntKind.wrap_i64];omega
     have hcr:zDj W H dot x y wn k=zAu W H dot (x+(t:Int)) (y+(s:Int)):=by
      have h1:k%wn=t:=by rw[←hk,←hPP.out,Nat.mul_comm,Nat.mul_add_mod,Nat.mod_eq_of_lt hxt]
      have h2:k/wn=s:=by rw[←hk,←hPP.out,Nat.mul_comm,Nat.mul_add_div xD,Nat.div_eq_of_lt hxt,Nat.add_zero]
      unfold zDj;rw[h1,h2]
     replace hcr:=Lib.hid hcr
     have hAr:=Lib.hid (hA.ext hE)
     replace hk:=Lib.hid hk
     replace hE:=Lib.hid hE
     go_wp2_with fail
     refine Flow.wp_flow 16 [(0,true),(1,true),(2,true),(3,true),(4,true),(5,true),(6,true),(7,true),(8,true),(9,true),(10,true),(11,true),(12,true),(13,true),(14,true),(15,true)] xC xC ?_
     simp only[List.map_cons,List.map_nil,List.getD_cons_succ,List.getD_cons_zero]
     repeat (first
      | (refine Flow.WalkL.move rfl ?_
         simp only[Act.put,Act.eval,Array.getD_eq_getD_getElem?,List.getElem?_toArray,List.getElem?_cons_succ,List.getElem?_cons_zero,Option.getD_some,List.setIfInBounds_toArray,List.set_cons_zero,List.set_cons_succ])
      | (refine Flow.WalkL.assign rfl ?_
         simp only[Act.put,Act.eval,Array.getD_eq_getD_getElem?,List.getElem?_toArray,List.getElem?_cons_succ,List.getElem?_cons_zero,Option.getD_some,List.setIfInBounds_toArray,List.set_cons_zero,List.set_cons_succ])
      | (refine Flow.WalkL.callf Tryz.func73 rfl xC rfl (fun w1 hC=>zKG W H A n c dot (x+(t:Int)) (y+(s:Int)) w1 hok.out (hAr.out.ext hC)) rfl rfl ?_
         simp only[Act.put,List.setIfInBounds_toArray,List.set_cons_zero,List.set_cons_succ])
      | (refine Flow.WalkL.run (v:= ?_) rfl (fun w1 hC=> ?_) ?_
         rotate_left
         ·obtain⟨hCc,hCf⟩:=hC.rules
          go_simp
          with_reducible rfl
         simp only[Act.put,List.setIfInBounds_toArray,List.set_cons_zero,List.set_cons_succ]))
     refine Flow.WalkL.nil ?_
     simp only[List.drop]
     intro v1 hv1;have hO1:=hO.ext hv1;have hgc1:=hO1.cell hkm;have hgf1:=hO1.frozen k;have hgl1:=hO1.lt
     replace hE:=Lib.hid (hE.out.trans hv1)
     have hP1:=Lib.hid (hPb.ext hv1);have hR1:=Lib.hid (hRb.ext hv1);have hT1:=Lib.hid (hTb.ext hv1);clear hgc hgf pc pf pl tc tf tl hPb hRb hTb hO
     replace hO1:=Lib.hid hO1
     go_wp2_with fail
     exact⟨⟨t+1,by omega,by go_num,hP1.out.far (by simp;omega) _,hR1.out.far (by simp;omega) _,hT1.out.far (by simp;omega) _,
      (hO1.out.set_ k _).congr (fun j hj=>by
        simp only[upd]
        have hk:=hk.out;by_cases e:j=k
        ·subst e;rw[if_pos rfl,if_pos xD,hcr.out]
        ·rw[if_neg e];by_cases e2:j<P+t
         ·rw[if_pos e2,if_pos xD]
         ·rw[if_neg e2,if_neg xD]),
      hE.out.setCell (by simp;omega) _⟩,by simp only[intOf];omega⟩
    ·obtain rfl:t=wn:=by omega
     replace hPb:=Lib.hid hPb
     replace hRb:=Lib.hid hRb
     replace hTb:=Lib.hid hTb
     replace hO:=Lib.hid hO
     replace hE:=Lib.hid hE
     have hxt':¬((t:Int)<t):=by omega
     go_wp2_with fail
     exact⟨⟨s+1,by omega,by go_num,hPb.out,hRb.out,hTb.out,by rw[Nat.add_mul,Nat.one_mul,hPP.out];exact hO.out,hE.out⟩,by simp only[intOf];omega⟩
  ·obtain rfl:s=hn:=by omega
   have hlt':¬((s:Int)<s):=by omega
   obtain⟨rc,rf,rl⟩:=hRb.rules
   obtain⟨tc,tf,tl⟩:=hTb.rules
   have hfin:zH0 W H dot x y wn s w (.returned (.tuple #[bmp wn s (some ⟨g,0,none⟩) m m,.int .i64 0])) (((wr.setCell ⟨w.heap.size+1,0,none⟩ (.int .i64 wn)).setCell ⟨w.heap.size+1,1,none⟩ (.int .i64 s)).setCell ⟨w.heap.size+1,2,none⟩ (.slice (some ⟨g,0,none⟩) m m)):=
    hP.out _ _ ⟨g,m,rfl,hm'.out,(((hO.congr (fun j hj=>by rw[if_pos (by rw[Nat.mul_comm,←hm'.out];exact hj)])).far (by simp;omega) _).far (by simp;omega) _).far (by simp;omega) _,by omega,
     ((hE.setCell (by simp) _).setCell (by simp) _).setCell (by simp) _⟩
   replace hfin:=Lib.hid hfin
   clear hP hE hO
   go_wp2_with fail
   exact bodyPost_ret (v:=.tuple #[bmp wn s (some ⟨g,0,none⟩) m m,.int .i64 0]) (by simp[results,Tryz.results47,go_sem, *]) rfl hfin.out
end Go.Proofs.YtbffmfeldkjkcaaGreat
end
section
namespace Go.Proofs.YtbffmfeldkjkcaaGreat
open Go.RowKit Go.Flow Go.AV Go.Plain
theorem zOK(W H n:Nat)(dot:Nat→Bool)(x y:Int)(wn hn:Nat)(hok:chk W H n=0)(hx:-1000≤x∧x≤1000)(hy:-1000≤y∧y≤1000)(hw:wn≤96)(hh:hn≤96):
 ACalls Tryz.prog 47 [.ag (zAz W H n dot),.c (iC x),.c (iC y),.c (iC wn),.c (iC hn)] (.tu [.ag (zAz wn hn (wn*hn) (zDj W H dot x y wn)),.c (iC 0)]):=
 ACalls.of fun O w vals hO h=>by
  obtain⟨b,x1,y1,w1,h1,rfl,k1,k2,k3,k4,k5⟩:=zPB h
  obtain⟨A,c,rfl,-,hA⟩:=zF3 k1
  cases zDk k2
  cases zDk k3
  cases zDk k4
  cases zDk k5
  exact(zOY W H A n c dot x y wn hn w hok hA hx hy hw hh).mono fun e w' ⟨g,m,g1,g2,g3,g4,g5⟩=>by
   subst g2
   exact⟨_,g1,⟨[_,_],rfl,zPI hO (Nat.le_refl _) (zOS g3 g4),⟨rfl,rfl⟩,trivial⟩,g5⟩
structure Ca where
 nA:Nat
 fA:Nat→Int
 nB:Nat
 fB:Nat→Int
 nX:Nat
 fX:Nat→Int
 nY:Nat
 fY:Nat→Int
 nH:Nat
 fH:Nat→Int
 q:Int
def Ca.ok(c:Ca):Prop:=c.nA≤4611686018427387904∧c.nB≤4611686018427387904∧c.nX≤4611686018427387904∧c.nY≤4611686018427387904∧c.nH≤4611686018427387904∧-9223372036854775808≤c.q∧c.q≤9223372036854775807
def crV(N:Nat)(f:Nat→Int)(w h:Nat):Bp:=⟨w,h,w*h,zDj (mdW N f) (mdH N f) (mdF N f (mdW N f) (mdH N f) 12 (dat N (dat N 0),fun _=>false)) 0 0 w⟩
theorem zPW(W H:Nat)(hW:W≤96)(hH:H≤96):chk (W:Int) (H:Int) (W*H)=0:=by
 unfold chk;rw[sideB_iff.2 ⟨by omega,by omega⟩,sideB_iff.2 ⟨by omega,by omega⟩,Int.natCast_mul]
 simp
theorem zMO(N:Nat)(f:Nat→Int):mdW N f≤16∧mdH N f≤12:=by
 have h1:=(zEw N f 17 0 xD).1;have h2:=(zEw N f 13 (dat N 0) xD).1;unfold mdW mdH
 omega
theorem zOJ(N:Nat)(f:Nat→Int)(w h:Nat)(hw:w≤96)(hh:h≤96):ACalls Tryz.prog 47 [.ag (bpC (mdV N f)),.c (iC 0),.c (iC 0),.c (iC w),.c (iC h)] (.tu [.ag (bpC (crV N f w h)),.c (iC 0)]):=by
 have:=zMO N f;exact zOK _ _ _ _ 0 0 w h (zPW _ _ xD xD) xD xD hw hh
end Go.Proofs.YtbffmfeldkjkcaaGreat
end
