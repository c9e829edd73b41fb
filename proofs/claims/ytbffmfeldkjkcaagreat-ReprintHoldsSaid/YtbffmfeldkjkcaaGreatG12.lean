/- Parts of the proof: ImgPutR. -/
import Derived.Test.YtbffmfeldkjkcaaGreatG09
set_option linter.unusedSimpArgs false
set_option linter.unusedVariables false
set_option maxHeartbeats 0
section
namespace Go.Proofs.YtbffmfeldkjkcaaGreat
open Go.RowKit Go.Flow
open Go.Proofs
attribute [local go_sem] zBu
attribute [local go_sem ↓] Go.wp_at_zero Go.wp_at_succ

theorem zKG(W H:Int)(A:Option Addr)(n c:Nat)(dot:Nat→Bool)(x y:Int)(w:World)(hok:chk W H n=0)(hA:zFj w A n dot):
 Calls Tryz.prog 73 #[bmp W H A n c,.int .i64 x,.int .i64 y] w fun e w'=>e=.returned (.bool (zAu W H dot x y))∧Ext w w':=by
 have hE:=Lib.hid ((Ext.refl w).alloc (.cells #[.int .i64 W,.int .i64 H,.slice A n c] 58));have hB:=Lib.hid (Blk.new w 58 #[.int .i64 W,.int .i64 H,.slice A n c]);have hk:=okB hok;have hne:(chk W H n==0)=true:=by simpa using hok
 replace hok:=Lib.hid hok
 by_cases h1:0≤x
 ·by_cases h2:x<W
  ·by_cases h3:0≤y
   ·by_cases h4:y<H
    ·have hp0:0≤y*W:=Int.mul_nonneg h3 xD
     have hp1:y*W+W≤W*H:=by
      have:(y+1)*W≤H*W:=Int.mul_le_mul_of_nonneg_right xD xD;rw[Int.add_mul,Int.mul_comm H W]at this
      omega
     have hbd:=zFu ⟨hk.1,hk.2.1⟩ ⟨hk.2.2.1,hk.2.2.2.1⟩
     obtain⟨hk1,hk2,hk3,hk4,hk5⟩:=hk
     have hlt:y*W+x<n:=by omega
     have hub:n≤9216:=by omega
     have e0:zAu W H dot x y=dot (y*W+x).toNat:=zIZ h1 h2 h3 h4;rw[e0];clear hk5 hbd hp1 e0
     obtain⟨m,hm⟩:∃m:Nat,y*W+x=m:=⟨(y*W+x).toNat,by omega⟩
     have hmn:m<n:=by omega
     have hw1:IntKind.i64.wrap (y*W)=y*W:=by rw[IntKind.wrap_i64];omega
     have hw2:IntKind.i64.wrap (y*W+x)=m:=by rw[IntKind.wrap_i64];omega
     have hmn':(m:Int)<n:=by omega
     have e1:(y*W+x).toNat=m:=by omega
     rw[e1];have hA1:=Lib.hid (hA.ext hE.out);clear e1 hlt
     obtain⟨v,hv⟩:∃v,dot m=v:=⟨_,rfl⟩
     rw[hv]
     go_enter Tryz.func73,Tryz.ntmps73
     go_wp2_with fail
     refine(zEf W H A n c _).mono ?_
     rintro e w1 ⟨rfl,hE1⟩
     obtain⟨bc,bf,bl⟩:=(hB.out.ext hE1).rules
     obtain⟨ad,rfl,hc⟩:=hA1.out.ext hE1 m hmn
     have hal:=zQX hc
     simp only[hv]at hc
     replace hv:=Lib.hid hv
     replace hE1:=Lib.hid (hE.out.trans hE1)
     go_wp2_with fail
     go_ret
     exact⟨rfl,hE1.out⟩
    ·have e0:zAu W H dot x y=false:=by unfold zAu;rw[if_neg xD]
     rw[e0];clear e0 hk
     go_enter Tryz.func73,Tryz.ntmps73
     go_wp2_with fail
     refine(zEf W H A n c _).mono ?_
     rintro e w1 ⟨rfl,hE1⟩
     obtain⟨bc,bf,bl⟩:=(hB.out.ext hE1).rules
     replace hE1:=Lib.hid (hE.out.trans hE1)
     go_wp2_with fail
     go_ret
     exact⟨rfl,hE1.out⟩
   ·have e0:zAu W H dot x y=false:=by unfold zAu;rw[if_neg xD]
    rw[e0];clear e0 hk
    go_enter Tryz.func73,Tryz.ntmps73
    go_wp2_with fail
    refine(zEf W H A n c _).mono ?_
    rintro e w1 ⟨rfl,hE1⟩
    obtain⟨bc,bf,bl⟩:=(hB.out.ext hE1).rules
    replace hE1:=Lib.hid (hE.out.trans hE1)
    go_wp2_with fail
    go_ret
    exact⟨rfl,hE1.out⟩
  ·have e0:zAu W H dot x y=false:=by unfold zAu;rw[if_neg xD]
   rw[e0];clear e0 hk
   go_enter Tryz.func73,Tryz.ntmps73
   go_wp2_with fail
   refine(zEf W H A n c _).mono ?_
   rintro e w1 ⟨rfl,hE1⟩
   obtain⟨bc,bf,bl⟩:=(hB.out.ext hE1).rules
   replace hE1:=Lib.hid (hE.out.trans hE1)
   go_wp2_with fail
   go_ret
   exact⟨rfl,hE1.out⟩
 ·have e0:zAu W H dot x y=false:=by unfold zAu;rw[if_neg xD]
  rw[e0];clear e0 hk
  go_enter Tryz.func73,Tryz.ntmps73
  go_wp2_with fail
  refine(zEf W H A n c _).mono ?_
  rintro e w1 ⟨rfl,hE1⟩
  obtain⟨bc,bf,bl⟩:=(hB.out.ext hE1).rules
  replace hE1:=Lib.hid (hE.out.trans hE1)
  go_wp2_with fail
  go_ret
  exact⟨rfl,hE1.out⟩
end Go.Proofs.YtbffmfeldkjkcaaGreat
end
