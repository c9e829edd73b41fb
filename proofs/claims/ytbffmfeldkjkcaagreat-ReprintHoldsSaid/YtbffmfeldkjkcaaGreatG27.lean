/- Parts of the proof: A28r, A28s. -/
import Derived.Test.YtbffmfeldkjkcaaGreatG26
set_option linter.unusedSimpArgs false
set_option linter.unusedVariables false
set_option maxHeartbeats 0
set_option maxRecDepth 100000
section
namespace Go.Proofs.YtbffmfeldkjkcaaGreat
open Go.RowKit Go.Flow Go.AV Go.Plain
theorem zFx{ids ni:List Nat}(x y:CV)(hx:zM x=true)(hy:zM y=true):BackA ids ni (.tu [.c x,.c y]) (.tu [.c x,.c y]):=.tu ⟨.c (.imm x hx),.c (.imm y hy),trivial⟩
abbrev zD1(ch:List Int):AB:=zAc ch.length (fI ch)
theorem zMl(p:Pb)(hp:p.fit):∀(m:Nat) (ch:List Int) (st:Int) (F:Nat→Nat→CV),ch.length+m=p.C.length→0<ch.length→ChOk p ch→(0≤st∧st≤20000)→(∀k,k<ch.length→∀j,j<1→F k j=iF (fI ch) k j)→
 zCg Tryz.prog 58 [.c (.pt 1000 7 0 0),.c (.ow 1002)] [srB p 1001 st,knB p,⟨true,ch.length,1,3,F⟩] (.tu [.c (lsI (zAI p m ch st).1),.c (iC (zAI p m ch st).2.1)]) [srB p 1001 (zAI p m ch st).2.2,knB p,⟨true,ch.length,1,3,F⟩] []
 | 0,ch,st,F,hm,h0,hch,hst,hF=>by
   have hcl:=hp.c;have hlen:((ch.length:Nat):Int)=p.C.length:=by omega
   obtain⟨V,hV⟩:∃V,zAI p 0 ch st=V:=⟨_,rfl⟩
   rw[hV]
   replace hV:(ch,(0:Int),st)=V:=hV
   subst hV;refine zBw Tryz.func58 rfl rfl Tryz.ntmps58 rfl ?_
   repeat (first
    |refine vB [0,1] ?_
    | (refine rG 2 ?_
       refine xE2 ?_;refine zGq zA rfl rfl rfl rfl rfl rfl rfl rfl rfl rfl rfl oM oM ?_;refine xE2 ?_;refine aB ?_))
   refine⟨mkL 65 3 [(4,.c (lsI ch)),(5,.c (iC 0))] [(1000,srB p 1001 st),(1001,knB p),(1002,⟨true,ch.length,1,3,F⟩)] [],[],_,[srB p 1001 st,knB p,⟨true,ch.length,1,3,F⟩],[],⟨rfl,rfl,rfl⟩,rfl,zQ [] rfl rfl rfl rfl rfl ?_ ?_,rfl,rfl,GRets.two (x:=.c _) (y:=.c _) (GRes.tmp rfl) (GRes.tmp rfl)⟩
   ·exact⟨⟨_,rfl,.c (zZ rfl rfl xD (fun i hi j hj=>⟨hF i xD j hj,by show zM (F i j)=true;rw[hF i xD j hj];rfl⟩))⟩,⟨_,rfl,LeA.int rfl⟩,trivial⟩
   ·exact⟨
    zAe rfl rfl ⟨LeC.refl _ rfl,LeC.refl _ rfl,LeC.refl _ rfl,LeC.refl _ rfl,LeC.refl _ rfl,LeC.owB 1001 rfl,LeC.int rfl,trivial⟩ rfl,zAK rfl rfl (fun _ _ h=>h)
    ,zAo rfl rfl (fun k hk j hj=>⟨rfl,by show zM (F k j)=true;rw[hF k hk j hj];rfl⟩),trivial⟩
 | m + 1,ch,st,F,hm,h0,hch,hst,hF=>by
   have hlt:ch.length<p.C.length:=by omega
   have hlt':¬((ch.length:Nat):Int)=p.C.length:=by omega
   have hfree:=fun st c h1=>zR5 p hp.ok hp.t st ch.length (fI ch) c (by have:=hp.c;omega) h1 hch
   have hih:=fun st c hst h1=>zMl p hp m (ch++ [c]) st (zAj (iF (fI ch)) ch.length (sF [iC c] 1)) (by simp only[List.length_append,List.length_singleton];omega) (by simp) (hch.snoc h1) hst (fun k hk j hj=>(zDt ch c k (by simpa using hk) j hj).1)
   simp only[List.length_append,List.length_singleton]at hih
   refine zBw Tryz.func58 rfl rfl Tryz.ntmps58 rfl ?_;refine vB [0] ?_;refine AWp.weak (S':=
    mkL 65 3 [(0,.c (.pt 1000 7 0 0)),(1,.c (.ow 1002))] [(1000,srB p 1001 (st)),(1001,knB p),(1002,zD1 ch)] []
    ) (zQ [] rfl rfl rfl rfl rfl ?_ ?_) ?_
   ·repeat (first|exact trivial|refine⟨⟨_,rfl,by first|exact LeA.c (LeC.ptB _ _ _ _ rfl)|exact LeA.c (LeC.owB _ rfl)|exact leT⟩,?_⟩)
   ·exact⟨
    zAe rfl rfl ⟨LeC.refl _ rfl,LeC.refl _ rfl,LeC.refl _ rfl,LeC.refl _ rfl,LeC.refl _ rfl,LeC.owB 1001 rfl,LeC.int rfl,trivial⟩ rfl,zAK rfl rfl (fun _ _ h=>h)
    ,zAo rfl rfl (fun k hk j hj=>⟨hF k hk j hj,by rw[hF k hk j hj];rfl⟩),trivial⟩
   obtain⟨L,hL⟩:∃L,p.C.getD (ch).length []=L:=⟨_,rfl⟩
   have hLl:L.length≤32:=by rw[←hL];exact hp.l _ (zAB hlt)
   have hcF:chF p.C (ch).length 0=lsB L:=by rw[←hL]
   have hcl:=hp.c;have hpk:=fun c (h:c<L.length)=>hp.pk hlt (c:=c) (by rw[hL];exact h)
   obtain⟨V,hV⟩:∃V,zAI p (m+1) (ch) st=V:=⟨_,rfl⟩
   rw[hV]
   replace hV:zBK (zAI p m) p (ch) L.length 0 st=V:=by rw[←hL];exact hV
   repeat (first
    |refine vB [1] ?_
    | (refine rG 3 ?_
       refine xE7 ?_;refine zG (aP (k:=ch.length) zA) ?_;refine zY zA (hcF) rfl rfl rfl rfl rfl oM ?_;refine xE2 ?_;refine aB ?_))
   refine AWp.round (fun s:Nat×Int=>
    mkL 65 3 [(0,.c (.pt 1000 7 0 0)),(1,.c (.ow 1002)),(30,.c (iC L.length)),(31,.c (iC s.1))] [(1000,srB p 1001 (s.2)),(1001,knB p),(1002,zD1 ch)] []
    ) (fun s=>s.1≤L.length∧(0≤s.2∧s.2≤20000)∧zBK (zAI p m) p (ch) (L.length-s.1) s.1 s.2=V) (fun s=>L.length-s.1) (0,st) ⟨Nat.zero_le _,hst,hV⟩ ?_ (fun s hs=> ?_)
   ·refine zQ [] rfl rfl rfl rfl rfl ?_ ?_
    ·repeat (first|exact trivial|refine⟨⟨_,rfl,by first|exact LeA.c (LeC.ptB _ _ _ _ rfl)|exact LeA.c (LeC.owB _ rfl)|exact leT⟩,?_⟩)
    ·exact⟨
     zAe rfl rfl ⟨LeC.refl _ rfl,LeC.refl _ rfl,LeC.refl _ rfl,LeC.refl _ rfl,LeC.refl _ rfl,LeC.owB 1001 rfl,LeC.int rfl,trivial⟩ rfl,zAK rfl rfl (fun _ _ h=>h)
     ,zAo rfl rfl (fun i _=>zAa ⟨rfl,rfl⟩),trivial⟩
   obtain⟨c,st1⟩:=s
   obtain⟨hc,hst1,hinv⟩:=hs
   dsimp only at hc hst1 hinv⊢;by_cases hcl:c<L.length
   ·have hcl':(c:Int)<L.length:=by omega
    obtain⟨r,hr⟩:∃r,L.length-c=r+1:=⟨L.length-c-1,by omega⟩
    have hr':L.length-(c+1)=r:=by omega
    rw[hr]at hinv;by_cases hov:20000<st1+1
    ·have hov':st1+1>20000:=hov
     rw[zGi hov]at hinv;subst hinv;refine vB [4,5,6,7,8] ?_
     refine⟨mkL 65 3 [(4,.c (lsI ([]))),(5,.c (iC (61)))] [(1000,srB p 1001 (st1+1)),(1001,knB p),(1002,⟨true,ch.length,1,3,F⟩)] [],[],_,[srB p 1001 (st1+1),knB p,⟨true,ch.length,1,3,F⟩],[],⟨rfl,rfl,rfl⟩,rfl,zQ [] rfl rfl rfl rfl rfl ?_ ?_,rfl,rfl,GRets.two (x:=.c _) (y:=.c _) (GRes.tmp rfl) (GRes.tmp rfl)⟩
     ·exact zB
     ·exact⟨
      zAe rfl rfl ⟨LeC.refl _ rfl,LeC.refl _ rfl,LeC.refl _ rfl,LeC.refl _ rfl,LeC.refl _ rfl,LeC.owB 1001 rfl,LeC.int rfl,trivial⟩ rfl,zAK rfl rfl (fun _ _ h=>h)
      ,zAo rfl rfl (fun k hk j hj=>⟨(hF k hk j hj).symm,rfl⟩),trivial⟩
    ·have hov':¬st1+1>20000:=hov
     have hfr:=hfree (st1+1) (c:Int) (hpk c hcl)
     obtain⟨f,hf⟩:∃f,zAW p (ch).length (fI (ch)) c=f:=⟨_,rfl⟩
     rw[hf]at hfr
     cases f with
     | false=>
       rw[zGj hov hf]at hinv
       repeat (first
        |refine vB [4,5,6,7,13] ?_
        | (refine rG 9 ?_
           refine xE3 ?_;refine AList.callG [1000,1001,1002] [] [srB p 1001 (st1+1),knB p,zD1 ch] [srB p 1001 (st1+1),knB p,zD1 ch] [] [srB p 1001 (st1+1),knB p,zD1 ch] [] rfl rfl FnV.func rfl Tryz.func69 rfl xC (zBD rfl rfl rfl rfl (LendOk2.row rfl h0 (fun i _=>zAa ⟨rfl,rfl⟩) trivial)) rfl (zCh (bC false) rfl) (zBB rfl (BackB.same (fun _ _ _ _=>rfl) trivial)) (trivial) (hfr) ?_;refine vA ?_;refine aB ?_))
       refine⟨(c+1,st1+1),⟨hcl,⟨by dsimp only;omega,by dsimp only;omega⟩,by dsimp only;rw[hr'];exact hinv⟩,zQ [] rfl rfl rfl rfl rfl ?_ ?_,by dsimp only;omega⟩
       ·repeat (first|exact trivial|refine⟨⟨_,rfl,by first|exact LeA.c (LeC.ptB _ _ _ _ rfl)|exact LeA.c (LeC.owB _ rfl)|exact leT⟩,?_⟩)
       ·exact⟨
        zAe rfl rfl ⟨LeC.refl _ rfl,LeC.refl _ rfl,LeC.refl _ rfl,LeC.refl _ rfl,LeC.refl _ rfl,LeC.owB 1001 rfl,LeC.int rfl,trivial⟩ rfl,zAK rfl rfl (fun _ _ h=>h)
        ,zAo rfl rfl (fun i _=>zAa ⟨rfl,rfl⟩),trivial⟩
     | true=>
       have hgo:=hih (st1+1) (c:Int) ⟨by omega,by omega⟩ (hpk c hcl);have hso:=zGV (p:=p) m ((ch)++ [(c:Int)]) (st1+1) ⟨by omega,by omega⟩;have hto:=zGh (rec:=zAI p m) (r:=r) hov hf;have htg:=zGg (rec:=zAI p m) (r:=r) hov hf;generalize zAI p m ((ch)++ [(c:Int)]) (st1+1)=o at hgo hso hto htg
       obtain⟨ol,oe,os⟩:=o
       dsimp only at hgo hto htg
       obtain⟨hso1,hso2⟩:=hso
       dsimp only at hso1 hso2
       repeat (first
        |refine vB [4,5,6,7] ?_
        | (refine rG 9 ?_
           refine xE3 ?_;refine AList.callG [1000,1001,1002] [] [srB p 1001 (st1+1),knB p,zD1 ch] [srB p 1001 (st1+1),knB p,zD1 ch] [] [srB p 1001 (st1+1),knB p,zD1 ch] [] rfl rfl FnV.func rfl Tryz.func69 rfl xC (zBD rfl rfl rfl rfl (LendOk2.row rfl h0 (fun i _=>zAa ⟨rfl,rfl⟩) trivial)) rfl (zCh (bC true) rfl) (zBB rfl (BackB.same (fun _ _ _ _=>rfl) trivial)) (trivial) (hfr) ?_;refine vA ?_;refine aB ?_))
       refine AWp.text ?_;refine AText.split 4 ?_;refine xE4 ?_;refine aB ?_;refine zKs zA [1000,1001] [] [srB p 1001 (st1+1),knB p] rfl rfl rfl rfl rfl rfl rfl rfl rfl (.inr ⟨1002,rfl,rfl,rfl,by decide⟩) (fun _ _ _ _=>rfl) (fun k hk j hj=>by first|rfl|(obtain rfl:k=0:=Nat.lt_one_iff.mp hk;obtain rfl:j=0:=Nat.lt_one_iff.mp hj;rfl)) xD xD (by dsimp only;omega) .func rfl Tryz.func58 rfl xC (zBD rfl rfl rfl rfl trivial) rfl (hgo) ?_
       rintro _ _ _ ⟨rfl,rfl,rfl⟩
       refine⟨_,[srB p 1001 os,knB p],[],zFx (lsI ol) (iC oe) rfl rfl,zBB rfl (BackB.same (fun k hk j hj=>(zDt (ch) c k hk j hj).2) trivial),trivial,rfl,?_⟩
       refine AText.all ?_;refine xE5 ?_;refine aB ?_;by_cases he:oe=60
       ·rw[htg he]at hinv
        have hos:=hso2 he;refine vB [11,13] ?_
        refine⟨(c+1,os),⟨hcl,⟨hso1,hos⟩,by dsimp only;rw[hr'];exact hinv⟩,zQ [] rfl rfl rfl rfl rfl ?_ ?_,by dsimp only;omega⟩
        ·repeat (first|exact trivial|refine⟨⟨_,rfl,by first|exact LeA.c (LeC.ptB _ _ _ _ rfl)|exact LeA.c (LeC.owB _ rfl)|exact leT⟩,?_⟩)
        ·exact⟨
         zAe rfl rfl ⟨LeC.refl _ rfl,LeC.refl _ rfl,LeC.refl _ rfl,LeC.refl _ rfl,LeC.refl _ rfl,LeC.owB 1001 rfl,LeC.int rfl,trivial⟩ rfl,zAK rfl rfl (fun _ _ h=>h)
         ,zAo rfl rfl (fun i _=>zAa ⟨rfl,rfl⟩),trivial⟩
       ·rw[hto he]at hinv
        subst hinv;refine vB [11,12] ?_
        refine⟨mkL 65 3 [(4,.c (lsI (ol))),(5,.c (iC (oe)))] [(1000,srB p 1001 (os)),(1001,knB p),(1002,⟨true,ch.length,1,3,F⟩)] [],[],_,[srB p 1001 (os),knB p,⟨true,ch.length,1,3,F⟩],[],⟨rfl,rfl,rfl⟩,rfl,zQ [] rfl rfl rfl rfl rfl ?_ ?_,rfl,rfl,GRets.two (x:=.c _) (y:=.c _) (GRes.tmp rfl) (GRes.tmp rfl)⟩
        ·exact zB
        ·exact⟨
         zAe rfl rfl ⟨LeC.refl _ rfl,LeC.refl _ rfl,LeC.refl _ rfl,LeC.refl _ rfl,LeC.refl _ rfl,LeC.owB 1001 rfl,LeC.int rfl,trivial⟩ rfl,zAK rfl rfl (fun _ _ h=>h)
         ,zAo rfl rfl (fun k hk j hj=>⟨(hF k hk j hj).symm,rfl⟩),trivial⟩
   ·have hcl':¬(c:Int)<L.length:=by omega
    obtain rfl:c=L.length:=by omega
    rw[Nat.sub_self]at hinv
    replace hinv:([],60,st1)=V:=hinv
    subst hinv;refine vB [4,14] ?_
    refine⟨mkL 65 3 [(4,.c (lsI ([]))),(5,.c (iC (60)))] [(1000,srB p 1001 (st1)),(1001,knB p),(1002,⟨true,ch.length,1,3,F⟩)] [],[],_,[srB p 1001 (st1),knB p,⟨true,ch.length,1,3,F⟩],[],⟨rfl,rfl,rfl⟩,rfl,zQ [] rfl rfl rfl rfl rfl ?_ ?_,rfl,rfl,GRets.two (x:=.c _) (y:=.c _) (GRes.tmp rfl) (GRes.tmp rfl)⟩
    ·exact zB
    ·exact⟨
     zAe rfl rfl ⟨LeC.refl _ rfl,LeC.refl _ rfl,LeC.refl _ rfl,LeC.refl _ rfl,LeC.refl _ rfl,LeC.owB 1001 rfl,LeC.int rfl,trivial⟩ rfl,zAK rfl rfl (fun _ _ h=>h)
     ,zAo rfl rfl (fun k hk j hj=>⟨(hF k hk j hj).symm,rfl⟩),trivial⟩
theorem zQo(p:Pb)(hp:p.fit)(st:Int)(hst:0≤st∧st≤20000):
 zCg Tryz.prog 58 [.c (.pt 1000 7 0 0),.c (.p (.slice none 0 0))] [srB p 1001 st,knB p] (.tu [.c (lsI (zAI p p.C.length [] st).1),.c (iC (zAI p p.C.length [] st).2.1)]) [srB p 1001 (zAI p p.C.length [] st).2.2,knB p] []:=by
 obtain⟨M,hM⟩:∃M,p.C.length=M:=⟨_,rfl⟩
 rw[hM]
 cases M with
 | zero=>
   have hlen:(0:Int)=p.C.length:=by omega
   show zCg _ _ _ _ (.tu [.c (lsI []),.c (iC 0)]) [srB p 1001 st,knB p] [];refine zBw Tryz.func58 rfl rfl Tryz.ntmps58 rfl ?_
   repeat (first
    |refine vB [0,1] ?_
    | (refine rG 2 ?_
       refine xE2 ?_;refine zJY zA rfl rfl rfl rfl rfl rfl rfl rfl rfl rfl oM oM ?_;refine xE2 ?_;refine aB ?_))
   refine⟨mkL 65 2 [(4,.c (lsI [])),(5,.c (iC 0))] [(1000,srB p 1001 st),(1001,knB p)] [],[],_,[srB p 1001 st,knB p],[],⟨rfl,rfl,rfl⟩,rfl,zQ [] rfl rfl rfl rfl rfl ?_ ?_,rfl,rfl,GRets.two (x:=.c _) (y:=.c _) (GRes.tmp rfl) (GRes.tmp rfl)⟩
   ·exact⟨⟨_,rfl,.c (zZ rfl rfl rfl (fun i hi=>absurd hi (Nat.not_lt_zero _)))⟩,⟨_,rfl,LeA.int rfl⟩,trivial⟩
   ·exact⟨
    zAe rfl rfl ⟨LeC.refl _ rfl,LeC.refl _ rfl,LeC.refl _ rfl,LeC.refl _ rfl,LeC.refl _ rfl,LeC.owB 1001 rfl,LeC.int rfl,trivial⟩ rfl,zAK rfl rfl (fun _ _ h=>h)
    ,trivial⟩
 | succ m=>
   have hch:ChOk p []:=fun k hk=>absurd hk (Nat.not_lt_zero _)
   have hlt:([]:List Int).length<p.C.length:=by rw[hM];exact Nat.succ_pos _
   have hlt':¬(0:Int)=p.C.length:=by omega
   have hfree:=fun st c h1=>(zNP p hp.ok hp.t st ([]:List Int).length (fI []) c (by decide) h1 hch).cv (args':= [.c (.pt 1000 7 0 0),.c (.p (.slice none 0 0)),.c (iC c)]) ⟨.c (Cv.refl _),.c Cv.nil,.c (Cv.refl _),trivial⟩
   have hih:=fun st c hst h1=>zMl p hp m ([]++ [c]) st (zAj (iF (fI [])) ([]:List Int).length (sF [iC c] 1)) (by simp;omega) (by simp) (ChOk.snoc hch h1) hst (fun k hk j hj=>(zDt [] c k (by simpa using hk) j hj).1)
   refine zBw Tryz.func58 rfl rfl Tryz.ntmps58 rfl ?_;refine vB [0] ?_;refine AWp.weak (S':=
    mkL 65 2 [(0,.c (.pt 1000 7 0 0)),(1,.c (.p (.slice none 0 0)))] [(1000,srB p 1001 (st)),(1001,knB p)] []
    ) (zQ [] rfl rfl rfl rfl rfl ?_ ?_) ?_
   ·repeat (first|exact trivial|refine⟨⟨_,rfl,by first|exact LeA.c (LeC.ptB _ _ _ _ rfl)|exact LeA.c (LeC.owB _ rfl)|exact leT⟩,?_⟩)
   ·exact⟨
    zAe rfl rfl ⟨LeC.refl _ rfl,LeC.refl _ rfl,LeC.refl _ rfl,LeC.refl _ rfl,LeC.refl _ rfl,LeC.owB 1001 rfl,LeC.int rfl,trivial⟩ rfl,zAK rfl rfl (fun _ _ h=>h)
    ,trivial⟩
   obtain⟨L,hL⟩:∃L,p.C.getD ([]:List Int).length []=L:=⟨_,rfl⟩
   have hLl:L.length≤32:=by rw[←hL];exact hp.l _ (zAB hlt)
   have hcF:chF p.C ([]:List Int).length 0=lsB L:=by rw[←hL]
   have hcl:=hp.c;have hpk:=fun c (h:c<L.length)=>hp.pk hlt (c:=c) (by rw[hL];exact h)
   obtain⟨V,hV⟩:∃V,zAI p (m+1) ([]:List Int) st=V:=⟨_,rfl⟩
   rw[hV]
   replace hV:zBK (zAI p m) p ([]:List Int) L.length 0 st=V:=by rw[←hL];exact hV
   repeat (first
    |refine vB [1] ?_
    | (refine rG 3 ?_
       refine xE7 ?_;refine zG (aP (k:=0) zA) ?_;refine zY zA (hcF) rfl rfl rfl rfl rfl oM ?_;refine xE2 ?_;refine aB ?_))
   refine AWp.round (fun s:Nat×Int=>
    mkL 65 2 [(0,.c (.pt 1000 7 0 0)),(1,.c (.p (.slice none 0 0))),(30,.c (iC L.length)),(31,.c (iC s.1))] [(1000,srB p 1001 (s.2)),(1001,knB p)] []
    ) (fun s=>s.1≤L.length∧(0≤s.2∧s.2≤20000)∧zBK (zAI p m) p ([]:List Int) (L.length-s.1) s.1 s.2=V) (fun s=>L.length-s.1) (0,st) ⟨Nat.zero_le _,hst,hV⟩ ?_ (fun s hs=> ?_)
   ·refine zQ [] rfl rfl rfl rfl rfl ?_ ?_
    ·repeat (first|exact trivial|refine⟨⟨_,rfl,by first|exact LeA.c (LeC.ptB _ _ _ _ rfl)|exact LeA.c (LeC.owB _ rfl)|exact leT⟩,?_⟩)
    ·exact⟨
     zAe rfl rfl ⟨LeC.refl _ rfl,LeC.refl _ rfl,LeC.refl _ rfl,LeC.refl _ rfl,LeC.refl _ rfl,LeC.owB 1001 rfl,LeC.int rfl,trivial⟩ rfl,zAK rfl rfl (fun _ _ h=>h)
     ,trivial⟩
   obtain⟨c,st1⟩:=s
   obtain⟨hc,hst1,hinv⟩:=hs
   dsimp only at hc hst1 hinv⊢;by_cases hcl:c<L.length
   ·have hcl':(c:Int)<L.length:=by omega
    obtain⟨r,hr⟩:∃r,L.length-c=r+1:=⟨L.length-c-1,by omega⟩
    have hr':L.length-(c+1)=r:=by omega
    rw[hr]at hinv;by_cases hov:20000<st1+1
    ·have hov':st1+1>20000:=hov
     rw[zGi hov]at hinv;subst hinv;refine vB [4,5,6,7,8] ?_
     refine⟨mkL 65 2 [(4,.c (lsI ([]))),(5,.c (iC (61)))] [(1000,srB p 1001 (st1+1)),(1001,knB p)] [],[],_,[srB p 1001 (st1+1),knB p],[],⟨rfl,rfl,rfl⟩,rfl,zQ [] rfl rfl rfl rfl rfl ?_ ?_,rfl,rfl,GRets.two (x:=.c _) (y:=.c _) (GRes.tmp rfl) (GRes.tmp rfl)⟩
     ·exact zB
     ·exact⟨
      zAe rfl rfl ⟨LeC.refl _ rfl,LeC.refl _ rfl,LeC.refl _ rfl,LeC.refl _ rfl,LeC.refl _ rfl,LeC.owB 1001 rfl,LeC.int rfl,trivial⟩ rfl,zAK rfl rfl (fun _ _ h=>h)
      ,trivial⟩
    ·have hov':¬st1+1>20000:=hov
     have hfr:=hfree (st1+1) (c:Int) (hpk c hcl)
     obtain⟨f,hf⟩:∃f,zAW p ([]:List Int).length (fI ([]:List Int)) c=f:=⟨_,rfl⟩
     rw[hf]at hfr
     cases f with
     | false=>
       rw[zGj hov hf]at hinv
       repeat (first
        |refine vB [4,5,6,7,13] ?_
        | (refine rG 9 ?_
           refine xE3 ?_;refine AList.callG [1000,1001] [] [srB p 1001 (st1+1),knB p] [srB p 1001 (st1+1),knB p] [] [srB p 1001 (st1+1),knB p] [] rfl rfl FnV.func rfl Tryz.func69 rfl xC (zBD rfl rfl rfl rfl trivial) rfl (zCh (bC false) rfl) (zBB rfl trivial) (trivial) (hfr) ?_;refine vA ?_;refine aB ?_))
       refine⟨(c+1,st1+1),⟨hcl,⟨by dsimp only;omega,by dsimp only;omega⟩,by dsimp only;rw[hr'];exact hinv⟩,zQ [] rfl rfl rfl rfl rfl ?_ ?_,by dsimp only;omega⟩
       ·repeat (first|exact trivial|refine⟨⟨_,rfl,by first|exact LeA.c (LeC.ptB _ _ _ _ rfl)|exact LeA.c (LeC.owB _ rfl)|exact leT⟩,?_⟩)
       ·exact⟨
        zAe rfl rfl ⟨LeC.refl _ rfl,LeC.refl _ rfl,LeC.refl _ rfl,LeC.refl _ rfl,LeC.refl _ rfl,LeC.owB 1001 rfl,LeC.int rfl,trivial⟩ rfl,zAK rfl rfl (fun _ _ h=>h)
        ,trivial⟩
     | true=>
       have hgo:=hih (st1+1) (c:Int) ⟨by omega,by omega⟩ (hpk c hcl);have hso:=zGV (p:=p) m (([]:List Int)++ [(c:Int)]) (st1+1) ⟨by omega,by omega⟩;have hto:=zGh (rec:=zAI p m) (r:=r) hov hf;have htg:=zGg (rec:=zAI p m) (r:=r) hov hf;generalize zAI p m (([]:List Int)++ [(c:Int)]) (st1+1)=o at hgo hso hto htg
       obtain⟨ol,oe,os⟩:=o
       dsimp only at hgo hto htg
       obtain⟨hso1,hso2⟩:=hso
       dsimp only at hso1 hso2
       repeat (first
        |refine vB [4,5,6,7] ?_
        | (refine rG 9 ?_
           refine xE3 ?_;refine AList.callG [1000,1001] [] [srB p 1001 (st1+1),knB p] [srB p 1001 (st1+1),knB p] [] [srB p 1001 (st1+1),knB p] [] rfl rfl FnV.func rfl Tryz.func69 rfl xC (zBD rfl rfl rfl rfl trivial) rfl (zCh (bC true) rfl) (zBB rfl trivial) (trivial) (hfr) ?_;refine vA ?_;refine aB ?_))
       refine AWp.text ?_;refine AText.split 4 ?_;refine xE4 ?_;refine aB ?_;refine zKs zA [1000,1001] [] [srB p 1001 (st1+1),knB p] rfl rfl rfl rfl rfl rfl rfl rfl rfl (.inl ⟨rfl,rfl,rfl⟩) (fun _ _ _ _=>rfl) (fun k hk j hj=>by first|rfl|(obtain rfl:k=0:=Nat.lt_one_iff.mp hk;obtain rfl:j=0:=Nat.lt_one_iff.mp hj;rfl)) xD xD (by dsimp only;omega) .func rfl Tryz.func58 rfl xC (zBD rfl rfl rfl rfl trivial) rfl (hgo) ?_
       rintro _ _ _ ⟨rfl,rfl,rfl⟩
       refine⟨_,[srB p 1001 os,knB p],[],zFx (lsI ol) (iC oe) rfl rfl,zBB rfl (BackB.same (fun k hk j hj=>(zDt ([]:List Int) c k hk j hj).2) trivial),trivial,rfl,?_⟩
       refine AText.all ?_;refine xE5 ?_;refine aB ?_;by_cases he:oe=60
       ·rw[htg he]at hinv
        have hos:=hso2 he;refine vB [11,13] ?_
        refine⟨(c+1,os),⟨hcl,⟨hso1,hos⟩,by dsimp only;rw[hr'];exact hinv⟩,zQ [] rfl rfl rfl rfl rfl ?_ ?_,by dsimp only;omega⟩
        ·repeat (first|exact trivial|refine⟨⟨_,rfl,by first|exact LeA.c (LeC.ptB _ _ _ _ rfl)|exact LeA.c (LeC.owB _ rfl)|exact leT⟩,?_⟩)
        ·exact⟨
         zAe rfl rfl ⟨LeC.refl _ rfl,LeC.refl _ rfl,LeC.refl _ rfl,LeC.refl _ rfl,LeC.refl _ rfl,LeC.owB 1001 rfl,LeC.int rfl,trivial⟩ rfl,zAK rfl rfl (fun _ _ h=>h)
         ,trivial⟩
       ·rw[hto he]at hinv
        subst hinv;refine vB [11,12] ?_
        refine⟨mkL 65 2 [(4,.c (lsI (ol))),(5,.c (iC (oe)))] [(1000,srB p 1001 (os)),(1001,knB p)] [],[],_,[srB p 1001 (os),knB p],[],⟨rfl,rfl,rfl⟩,rfl,zQ [] rfl rfl rfl rfl rfl ?_ ?_,rfl,rfl,GRets.two (x:=.c _) (y:=.c _) (GRes.tmp rfl) (GRes.tmp rfl)⟩
        ·exact zB
        ·exact⟨
         zAe rfl rfl ⟨LeC.refl _ rfl,LeC.refl _ rfl,LeC.refl _ rfl,LeC.refl _ rfl,LeC.refl _ rfl,LeC.owB 1001 rfl,LeC.int rfl,trivial⟩ rfl,zAK rfl rfl (fun _ _ h=>h)
         ,trivial⟩
   ·have hcl':¬(c:Int)<L.length:=by omega
    obtain rfl:c=L.length:=by omega
    rw[Nat.sub_self]at hinv
    replace hinv:([],60,st1)=V:=hinv
    subst hinv;refine vB [4,14] ?_
    refine⟨mkL 65 2 [(4,.c (lsI ([]))),(5,.c (iC (60)))] [(1000,srB p 1001 (st1)),(1001,knB p)] [],[],_,[srB p 1001 (st1),knB p],[],⟨rfl,rfl,rfl⟩,rfl,zQ [] rfl rfl rfl rfl rfl ?_ ?_,rfl,rfl,GRets.two (x:=.c _) (y:=.c _) (GRes.tmp rfl) (GRes.tmp rfl)⟩
    ·exact zB
    ·exact⟨
     zAe rfl rfl ⟨LeC.refl _ rfl,LeC.refl _ rfl,LeC.refl _ rfl,LeC.refl _ rfl,LeC.refl _ rfl,LeC.owB 1001 rfl,LeC.int rfl,trivial⟩ rfl,zAK rfl rfl (fun _ _ h=>h)
     ,trivial⟩
theorem zCE{p:Pb}(hp:p.ok)(h:zAr p=0):p.fit:=by
 unfold zAr at h;by_cases h1:4<p.R.length∨200<p.C.length∨200<p.F.length
 ·rw[if_pos h1]at h;cases h
 ·rw [if_neg h1]at h
  cases h2:p.C.any (fun l=>decide (32<l.length))with
  |true=>rw[h2,if_pos rfl]at h;cases h
  | false=>
    rw[h2,if_neg (by simp)]at h;by_cases h3:zDD p.R=0
    ·rw[if_pos h3]at h
     by_cases h4:p.O.length=p.C.length∧p.T.length=p.F.length
     ·refine⟨hp,h4.2,h4.1,by omega,by omega,fun l hl=> ?_⟩
      rw[List.any_eq_false]at h2;have:=h2 l hl
      simp at this
      exact this
     ·rw[if_neg h4]at h;cases h
    ·rw[if_neg h3]at h;exact absurd h h3
def zED(p:Pb)(f:Nat→Int)(k:Nat):Bool:=decide (0≤f k∧f k<(p.C.getD k []).length) && zAW p k f (f k)
def zEO(p:Pb)(n:Nat)(f:Nat→Int):Bool:=decide (zAr p=0∧n=p.C.length) && (List.range n).all (zED p f)
theorem holdsV_iff{p:Pb}{n:Nat}{f:Nat→Int}:zEO p n f=true↔(zAr p=0∧n=p.C.length)∧∀k,k<n→zED p f k=true:=by
 unfold zEO
 simp[List.all_eq_true]
theorem zQH{p:Pb}{n:Nat}{f:Nat→Int}(h:¬((zAr p=0∧n=p.C.length)∧∀k,k<n→zED p f k=true)):zEO p n f=false:=Bool.eq_false_iff.2 fun e=>h (holdsV_iff.1 e)
theorem stepOk_iff{p:Pb}{f:Nat→Int}{k:Nat}:zED p f k=true↔(0≤f k∧f k<(p.C.getD k []).length)∧zAW p k f (f k)=true:=by
 unfold zED
 simp
def zAZ(p:Pb):List Int×Int:=if zAr p=0 then ((zAI p p.C.length [] 0).1,(zAI p p.C.length [] 0).2.1)else ([],zAr p)
theorem PkOk.of{p:Pb}(h:p.fit){k:Nat}{c:Int}(hk:k<p.C.length)(hc:0≤c∧c<(p.C.getD k []).length):PkOk p k c:=by
 obtain⟨j,rfl⟩:=Int.eq_ofNat_of_zero_le hc.1
 exact h.pk hk xD
theorem zOQ(p:Pb)(hp:p.ok)(n:Nat)(f:Nat→Int)(hn:n≤1000000):ACalls Tryz.prog 40 [.ag (pbC p),.c (.ls n 1 (iF f))] (.c (bC (zEO p n f))):=by
 have hC:=zDH p hp;have hno:= @zQH p n f;have lC:=hp.lC
 obtain⟨e,he⟩:∃e,zAr p=e:=⟨_,rfl⟩
 rw[he]at hC hno;by_cases h0:e=0
 ·subst h0
  have hfit:=zCE hp he;by_cases hl:n=p.C.length
  ·have hl':(n:Int)=p.C.length:=by omega
   obtain⟨V,hV⟩:∃V,zEO p n f=V:=⟨_,rfl⟩
   rw[hV]at hno⊢;have hyes:= @holdsV_iff p n f;rw[hV,he]at hyes;refine zJ Tryz.func40 rfl rfl Tryz.ntmps40 rfl ?_
   repeat (first
    |refine vB [0,4] ?_
    | (refine rG 1 ?_
       refine vA ?_;refine xB Tryz.func25 hC ?_;refine xE9 ?_;refine aB ?_)
    | (refine rG 3 ?_
       refine vA ?_;refine AList.makeMap ((knK p)) (zKJ) rfl rfl rfl ?_;refine xE3 ?_;refine aB ?_))
   refine AWp.round (fun k:Nat=>
    zC 52 [(1,.c (.ls n 1 (iF f))),(2,.c (.pt 2 5 0 0)),(5,.c (.pt 22 7 0 0)),(23,.c (.ls n 1 (iF f))),(24,.c (iC n)),(25,.c (iC (k:Nat)))] [(2,⟨false,1,5,34,lF (pbC p)⟩),(20,knB p),(22,srB p 20 0)] [2,20,22]
    ) (fun k=>k≤n∧∀j,j<k→zED p f j=true) (fun k=>n-k) 0 ⟨Nat.zero_le _,fun _ h=>absurd h (Nat.not_lt_zero _)⟩ ?_ (fun k hk=> ?_)
   ·refine Wk.mk [(2,some 2),(20,some 20),(22,some 22)] rfl rfl rfl ?_ ?_
    ·exact zB
    ·exact⟨hSm,HeapOk.mo rfl rfl (fun _ _ h=>h),HeapOk.box rfl rfl ⟨LeC.refl _ rfl,LeC.refl _ rfl,LeC.refl _ rfl,LeC.refl _ rfl,LeC.refl _ rfl,LeC.ow _ _ rfl,LeC.int rfl,trivial⟩ rfl,trivial⟩
   obtain⟨hk,hok⟩:=hk
   by_cases hkl:k<n
   ·have hkl':(k:Int)<n:=by omega
    obtain⟨L,hL⟩:∃L,p.C.getD k []=L:=⟨_,rfl⟩
    have hcF:chF p.C k 0=lsB L:=by rw[←hL]
    have hLl:L.length≤32:=by rw[←hL];exact hfit.l _ (zAB xD)
    have hst:= @stepOk_iff p f k;rw[hL]at hst;by_cases c1:f k<0
    ·obtain rfl:=hno fun h=>absurd (hst.1 (h.2 k hkl)).1.1 xD
     repeat (first
      |refine vB [5,7,8] ?_
      | (refine rG 6 ?_
         refine vA ?_;refine zG (aP (k:=k) zA) ?_;refine xE3 ?_;refine aB ?_))
     refine⟨zC 52 [(4,.c (bC false))] [] [],[],Wk.mk [] rfl rfl rfl ?_ trivial,rfl,rfl,aR1⟩
     exact zB
    by_cases c2:f k≥L.length
    ·obtain rfl:=hno fun h=>absurd (hst.1 (h.2 k hkl)).1.2 xD
     repeat (first
      |refine vB [5,8] ?_
      | (refine rG 6 ?_
         refine vA ?_;refine zG (aP (k:=k) zA) ?_;refine xE3 ?_;refine aB ?_)
      | (refine rG 7 ?_
         refine xE7 ?_;refine zG (aP (k:=k) zA) ?_;refine zY zA (hcF) rfl rfl rfl rfl rfl oM ?_;refine zHE ?_;refine aB ?_))
     refine⟨zC 52 [(4,.c (bC false))] [] [],[],Wk.mk [] rfl rfl rfl ?_ trivial,rfl,rfl,aR1⟩
     exact zB
    have hpk:=PkOk.of hfit (k:=k) (c:=f k) xD (by rw[hL];omega)
    have hfr:=zNP p hp hfit.t 0 k (fun i=>f (0+i)) (f k) xD hpk (fun i hi=>by rw[Nat.zero_add];exact PkOk.of hfit xD (stepOk_iff.1 (hok i hi)).1)
    rw[show zAW p k (fun i=>f (0+i)) (f k)=zAW p k f (f k) by rw[show(fun i=>f (0+i))=f from funext fun i=>by rw[Nat.zero_add]]]at hfr
    cases hf:zAW p k f (f k)with
    | false=>
      rw[hf]at hfr;obtain rfl:=hno fun h=>by have:=(hst.1 (h.2 k hkl)).2;rw[hf]at this;cases this
      repeat (first
       |refine vB [5,8] ?_
       | (refine rG 6 ?_
          refine vA ?_;refine zG (aP (k:=k) zA) ?_;refine xE3 ?_;refine aB ?_)
       | (refine rG 7 ?_
          refine xE7 ?_;refine zG (aP (k:=k) zA) ?_;refine zY zA (hcF) rfl rfl rfl rfl rfl oM ?_;refine xE7 ?_;refine AList.cut (l:=0) (h:=k) zA rfl rfl rfl rfl rfl rfl rfl rfl ⟨_,_,rfl,by first|rfl|omega⟩ xD xD ?_;refine vA ?_;refine AList.callG [22,20] [] [srB p 1001 0,knB p] [srB p 1001 0,knB p] [] [srB p 20 0,knB p] [] rfl rfl FnV.func rfl Tryz.func69 rfl xC (zBD rfl rfl rfl rfl trivial) rfl (zCh (bC false) rfl) (zBB rfl trivial) (trivial) (hfr) ?_;refine xE2 ?_;refine aB ?_))
      refine⟨zC 52 [(4,.c (bC false))] [] [],[],Wk.mk [] rfl rfl rfl ?_ trivial,rfl,rfl,aR1⟩
      exact zB
    | true=>
      rw[hf]at hfr
      repeat (first
       |refine vB [5,9] ?_
       | (refine rG 6 ?_
          refine vA ?_;refine zG (aP (k:=k) zA) ?_;refine xE3 ?_;refine aB ?_)
       | (refine rG 7 ?_
          refine xE7 ?_;refine zG (aP (k:=k) zA) ?_;refine zY zA (hcF) rfl rfl rfl rfl rfl oM ?_;refine xE7 ?_;refine AList.cut (l:=0) (h:=k) zA rfl rfl rfl rfl rfl rfl rfl rfl ⟨_,_,rfl,by first|rfl|omega⟩ xD xD ?_;refine vA ?_;refine AList.callG [22,20] [] [srB p 1001 0,knB p] [srB p 1001 0,knB p] [] [srB p 20 0,knB p] [] rfl rfl FnV.func rfl Tryz.func69 rfl xC (zBD rfl rfl rfl rfl trivial) rfl (zCh (bC true) rfl) (zBB rfl trivial) (trivial) (hfr) ?_;refine xE2 ?_;refine aB ?_))
      refine⟨k+1,⟨hkl,fun j hj=> ?_⟩,Wk.mk [(2,some 2),(20,some 20),(22,some 22)] rfl rfl rfl ?_ ?_,by omega⟩
      ·by_cases ej:j=k
       ·rw[ej];exact hst.2 ⟨⟨by omega,by omega⟩,hf⟩
       ·exact hok j xD
      ·exact zB
      ·exact⟨hSm,HeapOk.mo rfl rfl (fun _ _ h=>h),HeapOk.box rfl rfl ⟨LeC.refl _ rfl,LeC.refl _ rfl,LeC.refl _ rfl,LeC.refl _ rfl,LeC.refl _ rfl,LeC.ow _ _ rfl,LeC.int rfl,trivial⟩ rfl,trivial⟩
   have hkl':¬(k:Int)<n:=by omega
   obtain rfl:n=k:=by omega
   obtain rfl:V=true:=hyes.2 ⟨⟨rfl,hl⟩,hok⟩;refine vB [5,10] ?_
   refine⟨zC 52 [(4,.c (bC true))] [] [],[],Wk.mk [] rfl rfl rfl ?_ trivial,rfl,rfl,aR1⟩
   exact zB
  ·have hl':¬(n:Int)=p.C.length:=by omega
   rw[hno fun h=>hl h.1.2];refine zJ Tryz.func40 rfl rfl Tryz.ntmps40 rfl ?_
   repeat (first
    |refine vB [0,2] ?_
    | (refine rG 1 ?_
       refine vA ?_;refine xB Tryz.func25 hC ?_;refine xE9 ?_;refine aB ?_))
   refine⟨zC 52 [(4,.c (bC false))] [] [],[],Wk.mk [] rfl rfl rfl ?_ trivial,rfl,rfl,aR1⟩
   exact zB
 ·rw [hno fun h=>h0 h.1.1]
  refine zJ Tryz.func40 rfl rfl Tryz.ntmps40 rfl ?_
  repeat (first
   |refine vB [0,2] ?_
   | (refine rG 1 ?_
      refine vA ?_;refine xB Tryz.func25 hC ?_;refine xE9 ?_;refine aB ?_))
  refine⟨zC 52 [(4,.c (bC false))] [] [],[],Wk.mk [] rfl rfl rfl ?_ trivial,rfl,rfl,aR1⟩
  exact zB
theorem zKU(p:Pb)(hp:p.ok):ACalls Tryz.prog 29 [.ag (pbC p)] (.tu [.c (lsI (zAZ p).1),.c (iC (zAZ p).2)]):=by
 have hC:=zDH p hp;unfold zAZ
 obtain⟨e,he⟩:∃e,zAr p=e:=⟨_,rfl⟩
 rw[he]at hC⊢;by_cases h0:e=0
 ·subst h0
  have hfit:=zCE hp he;have hfr:=zQo p hfit 0 ⟨by decide,by decide⟩;rw[if_pos rfl];generalize zAI p p.C.length [] 0=o at *
  obtain⟨ol,oe,os⟩:=o
  refine zJ Tryz.func29 rfl rfl Tryz.ntmps29 rfl ?_
  repeat (first
   |refine vB [0,2] ?_
   | (refine rG 1 ?_
      refine vA ?_;refine xB Tryz.func25 hC ?_;refine vA ?_;refine aB ?_)
   | (refine rG 4 ?_
      refine vA ?_;refine AList.makeMap ((knK p)) (zKJ) rfl rfl rfl ?_;refine xE3 ?_;refine aB ?_)
   | (refine rG 5 ?_
      refine vA ?_;refine AList.callG [14,12] [] [srB p 1001 0,knB p] [srB p 1001 os,knB p] [] [srB p 12 os,knB p] [] rfl rfl FnV.func rfl Tryz.func58 rfl xC (zBD rfl rfl rfl rfl trivial) rfl (zFx (lsI ol) (iC oe) rfl rfl) (zBB rfl trivial) (trivial) (hfr) ?_;refine xE4 ?_;refine aB ?_))
  refine⟨zC 19 [(2,.c (lsI (ol))),(3,.c (iC (oe)))] [] [],[],Wk.mk [] rfl rfl rfl ?_ trivial,rfl,rfl,ARets.two (x:=.c _) (y:=.c _) (ARes.tmp rfl rfl) (ARes.tmp rfl rfl)⟩
  exact zB
 ·rw [if_neg h0]
  refine zJ Tryz.func29 rfl rfl Tryz.ntmps29 rfl ?_
  repeat (first
   |refine vB [0,2,3] ?_
   | (refine rG 1 ?_
      refine vA ?_;refine xB Tryz.func25 hC ?_;refine vA ?_;refine aB ?_))
  refine⟨zC 19 [(2,.c (lsI ([]))),(3,.c (iC (e)))] [] [],[],Wk.mk [] rfl rfl rfl ?_ trivial,rfl,rfl,ARets.two (x:=.c _) (y:=.c _) (ARes.tmp rfl rfl) (ARes.tmp rfl rfl)⟩
  exact zB
end Go.Proofs.YtbffmfeldkjkcaaGreat
end
