/- ReprintHolds: the statement. No condition. -/
import Derived.Test.YtbffmfeldkjkcaaGreatHA30zfr06
import Derived.Test.YtbffmfeldkjkcaaGreatRows
import Derived.Test.YtbffmfeldkjkcaaGreatHA30zfr03
set_option linter.unusedSimpArgs false
set_option linter.unusedVariables false
set_option maxHeartbeats 0
set_option maxRecDepth 100000
section
namespace Go.Proofs.YtbffmfeldkjkcaaGreat
open Go.RowKit Go.Flow Go.AV Go.Plain
def Cs.okM(c:Cs):Prop:=(LlOk c.P∧LlOk c.Hs)∧c.st.length≤4611686018427387904∧(-9223372036854775808≤c.o1∧c.o1≤9223372036854775807)∧-9223372036854775808≤c.l1∧c.l1≤9223372036854775807
theorem makeV_ok(p:Pb)(H:List Hg):(zBx p H).1.rp.length≤1000∧(zBx p H).1.an.length≤1000∧(zBx p H).1.ch.length≤1000:=by
 have hz:plZ.rp.length≤1000∧plZ.an.length≤1000∧plZ.ch.length≤1000:=⟨Nat.zero_le _,Nat.zero_le _,Nat.zero_le _⟩;unfold zBx;by_cases h1:zAr p=0
 ·rw [if_pos h1]
  by_cases h2:8<H.length
  ·rw[if_pos h2];exact hz
  ·rw [if_neg h2]
   by_cases h3:(zAd p H []).2=0
   ·rw [if_pos h3]
    by_cases h4:(zAd p H (zBr H.length)).2=0
    ·rw [if_pos h4]
     cases hf:(zBA H.length (H.length+1)).find? (zCt p H)with
     |none=>exact hz
     | some s=>
       have hl:=(zJO (List.mem_of_find?_eq_some hf)).2
       show(zDC p H s).1.rp.length≤_∧(zDC p H s).1.an.length≤_∧(zDC p H s).1.ch.length≤_
       unfold zDC;by_cases h5:(zAZ (zAd p H s).1).2=0
       ·rw[if_pos h5]
        have hC:p.C.length≤200:=by
         unfold zAr at h1;by_cases q:4<p.R.length∨200<p.C.length∨200<p.F.length
         ·rw[if_pos q]at h1;cases h1
         ·omega
        exact⟨by show s.length≤_;omega,by show(s.map _).length≤_;rw[List.length_map];omega,by show(List.take _ _).length≤_;rw[List.length_take];omega⟩
       ·rw[if_neg h5];exact hz
    ·rw[if_neg h4];exact hz
   ·rw[if_neg h3];exact hz
 ·rw[if_neg h1];exact hz
theorem st_ne30(a b:Stp)(w:World):(Go.binOp .neq 68 (.agg #[.int .i64 a.nm,.int .i64 a.ch,.int .i64 a.wi,.int .i64 a.rd,.bool a.dp,.int .i64 a.cl.dx,.int .i64 a.cl.dy,.int .i64 a.cl.col]) (.agg #[.int .i64 b.nm,.int .i64 b.ch,.int .i64 b.wi,.int .i64 b.rd,.bool b.dp,.int .i64 b.cl.dx,.int .i64 b.cl.dy,.int .i64 b.cl.col])).run Tryz.prog w=.ok (.bool (!decide (a=b))) w:=by
 have hp:Tryz.prog.stoodInHeld 68=false:=by kernel_rfl
 obtain⟨a0,a1,a2,a3,a4,a5,a6,a7⟩:=a
 obtain⟨b0,b1,b2,b3,b4,b5,b6,b7⟩:=b
 go_simp
 by_cases e0:a0=b0<;>by_cases e1:a1=b1<;>by_cases e2:a2=b2<;>by_cases e3:a3=b3<;>by_cases e4:a4=b4<;>by_cases e5:a5=b5<;>by_cases e6:a6=b6<;>by_cases e7:a7=b7<;>simp[e0,e1,e2,e3,e4,e5,e6,e7]
theorem rSame30_A(l m:List Stp)(hm:l=m)(hl:l.length≤1000000):ACalls Tryz.prog 17 [.c (zC2 l),.c (zC2 m)] (.c (bC true)):=by
 have hlm:(l.length:Int)=m.length:=by rw[hm]
 refine zJ Tryz.func17 rfl rfl Tryz.ntmps17 rfl ?_;refine vB [0,1,3] ?_;refine AWp.round (fun k:Nat=>zC 26 [(0,.c (zC2 l)),(1,.c (zC2 m)),(5,.c (iC (k:Nat)))] [] []) (fun k=>k≤l.length) (fun k=>l.length-k) 0 (Nat.zero_le _) ?_ (fun k hk=> ?_)
 ·refine Wk.mk [] rfl rfl rfl ?_ trivial
  exact zB
 by_cases hkl:k<l.length
 ·have hkl':(k:Int)<l.length:=by omega
  have hkm:k<m.length:=by omega
  obtain⟨s,hs⟩:∃s,l.getD k stZ=s:=⟨_,rfl⟩
  have eS:zAD (zS stC stZ l k) 0 8=stC s:=by rw[←hs];rfl
  have eM:zAD (zS stC stZ m k) 0 8=stC s:=by rw[←hs,hm];rfl
  have hq:=st_ne30 s s;rw[decide_eq_true rfl]at hq
  obtain⟨a0,a1,a2,a3,a4,a5,a6,a7⟩:=s
  repeat (first
   |refine vB [4,5] ?_
   |(refine AWp.draw (id:=6) zK ?_;refine xE2 ?_;(first|refine zG (aP (k:=k) zA) ?_|refine zI (zH (k:=k) zA) ?_);refine zEb zA (eS) rfl rfl rfl rfl rfl oM ?_;refine xE2 ?_;(first|refine zG (aP (k:=k) zA) ?_|refine zI (zH (k:=k) zA) ?_);refine zEb zA (eM) rfl rfl rfl rfl rfl oM ?_;refine zJZ rfl rfl rfl rfl rfl rfl xC (hq) ?_;refine aB ⟨by kernel_rfl,?_⟩))
  refine⟨k+1,hkl,Wk.mk [] rfl rfl rfl ?_ trivial,by omega⟩
  exact zB
 have hkl':¬(k:Int)<l.length:=by omega
 obtain rfl:k=l.length:=by omega
 refine vB [4,8] ?_
 refine⟨zC 26 [(4,.c (bC true))] [] [],[],Wk.mk [] rfl rfl rfl ?_ trivial,rfl,rfl,aR1⟩
 exact zB
theorem ref_len2{q:Pb}(hq:Sm q):(zEB q).1.length≤1000000:=by
 unfold zEB;rw[if_pos hq.chk];by_cases h:zEE q=0
 ·rw[if_pos h];exact(zTm hq h).2
 ·rw[if_neg h];exact Nat.zero_le _
theorem with_sm2{p:Pb}{H:List Hg}(hp:Sm p)(hC:p.C.length≤2)(hH:HgSm H){s:List Int}(h:(zAd p H s).2=0):Sm (zAd p H s).1:=by
 rw[(zFa h).1];exact zTy s hp hC hH
theorem whyF_len{p:Pb}{H:List Hg}(hp:Sm p)(hC:p.C.length≤2)(hH:HgSm H)(rp:List Int):∀(d k:Nat) (out:List (List Stp)),(∀l∈out,l.length≤1000000)→(∀l∈(zHC p H rp d k out).1,l.length≤1000000)∧(zHC p H rp d k out).1.length≤out.length+d
 |0,_,out,h=>⟨h,Nat.le_refl _⟩
 | d +1,k,out,h=>by
   unfold zHC;by_cases h1:(zAd p H (rp.eraseIdx k)).2=0
   ·rw[if_pos h1]
    by_cases h2:(zEB (zAd p H (rp.eraseIdx k)).1).2=0
    ·rw[if_pos h2]
     have:=whyF_len hp hC hH rp d (k+1) (out++ [(zEB (zAd p H (rp.eraseIdx k)).1).1]) (fun l hl=>by
      rcases List.mem_append.1 hl with hl|hl
      ·exact h l hl
      ·rw[List.mem_singleton.1 hl];exact ref_len2 (with_sm2 hp hC hH h1))
     rw[List.length_append,List.length_singleton]at this
     exact⟨this.1,by omega⟩
    ·rw[if_neg h2];exact⟨fun l hl=>(by cases hl),Nat.zero_le _⟩
   ·rw[if_neg h1];exact⟨fun l hl=>(by cases hl),Nat.zero_le _⟩
theorem hfacts(p:Pb)(sp:Sm p)(spC:p.C.length≤2)(H:List Hg)(hH:HgSm H)(y:Pl)(hy:zKO y):∃(L L':List (List Stp)) (e e':Int) (b:Bool),L=L'∧e=e'∧
 ACalls Tryz.prog 13 [.ag (pbC p),.c (lsH H),.ag (plC y)] (.tu [.c (lsW L),.c (iC e)])∧
 ACalls Tryz.prog 14 [.ag (pbC p),.c (lsH H),.ag (plC y)] (.tu [.c (lsW L'),.c (iC e')])∧
 ACalls Tryz.prog 15 [.ag (pbC p),.c (lsH H),.ag (plC y)] (.c (bC b))∧
 ACalls Tryz.prog 16 [.ag (pbC p),.c (lsH H),.ag (plC y)] (.c (bC b))∧
 (∀l∈L,l.length≤1000000)∧L.length≤1000000:=by
 have hok:=hH.bd.ok xD;have hl:(∀l∈(zGo p H y).1,l.length≤1000000)∧(zGo p H y).1.length≤1000000:=by
  unfold zGo;by_cases h:zEr p H y=true
  ·rw[if_pos h]
   have:=whyF_len sp spC hH y.rp y.rp.length 0 [] (fun l hl=>by cases hl)
   exact⟨this.1,by have:=this.2;have:=hy.1;simp only[List.length_nil]at *;omega⟩
  ·rw[if_neg h];exact⟨fun l hl=>(by cases hl),Nat.zero_le _⟩
 exact⟨_,_,_,_,_,rfl,rfl,zPb p sp.ok H hok y hy (fun k _ h0 hu=>zTm (with_sm2 sp spC hH h0) hu),zTK p sp.ok H hok y hy (fun k _ h0=>with_sm2 sp spC hH h0),zHU p sp.ok H hok y hy,zTp p sp.ok H hok y hy,hl.1,hl.2⟩
theorem neB30(b:Bool)(w:World):(Go.binOp .neq 4 (.bool b) (.bool b)).run Tryz.prog w=.ok (.bool false) w:=by cases b<;>kernel_rfl
abbrev pq30(q0 q1:Int):AB:=⟨false,1,2,25,lF [iC q0,iC q1]⟩
def oddP(x:Pl)(n t:Int):Pl:=if t=0 then ⟨x.rp,x.an,x.ch++ [n]⟩else if t=1 then ⟨x.rp++ [n],x.an++ [0],x.ch⟩else if t=2 then ⟨x.rp,x.an,List.replicate x.ch.length n⟩else ⟨x.rp,List.replicate x.an.length (n-1),x.ch⟩
def rpF(l:List Int)(n:Int)(k i:Nat):Int:=if i<k then n else fI l i
theorem rpF_set(l:List Int)(n:Int)(k:Nat):∀i j,j<1→zAw (iF (rpF l n k)) k 0 1 [iC n] i j=iF (rpF l n (k+1)) i j:=fun i j hj=>by
 obtain rfl:j=0:=Nat.lt_one_iff.mp hj;rw[zGa];show _=iC (rpF l n (k+1) i);unfold rpF;by_cases h:i=k
 ·subst h;rw[if_pos ⟨rfl,rfl⟩,if_pos (Nat.lt_succ_self _)]
 ·rw[if_neg (fun q=>h q.1)]
  show iC (if i<k then n else fI l i)=_;by_cases g:i<k
  ·rw[if_pos g,if_pos xD]
  ·rw[if_neg g,if_neg xD]
theorem rpF_all(l:List Int)(n:Int):(List.replicate l.length n).length=l.length∧∀i,i<l.length→∀j,j<1→iF (rpF l n l.length) i j=iF (fI (List.replicate l.length n)) i j∧zM (iF (rpF l n l.length) i j)=true:=⟨List.length_replicate,fun i hi j _=>⟨by
 show iC (if i<l.length then n else fI l i)=iC ((List.replicate l.length n).getD i 0);rw[if_pos hi,List.getD_eq_getElem?_getD,List.getElem?_replicate,if_pos hi]
 rfl,rfl⟩⟩
theorem ReprintHolds_A(c:Cs)(hc:c.okM)(raw:Pl)(hr1:raw.rp.length≤4611686018427387904)(hr2:raw.an.length≤4611686018427387904)(hr3:raw.ch.length≤4611686018427387904)(q0 q1:Int):ACalls Tryz.prog 4 [.ag (csC c),.ag (plC raw),.ag [iC q0,iC q1]] (.c (bC true)):=by
 obtain⟨⟨hP,hHs⟩,-,-,-⟩:=hc
 have hSan:=zR0;have hMd:=zQY c hP hHs
 obtain⟨sm1,-⟩:=zG9 c.P
 obtain⟨sm2,-⟩:=zG9 c.Hs
 obtain⟨sp,spC⟩:=zP6 sm1
 have hHm:=zQC sm2;generalize zEq (zCH c.P)=p at *;generalize zDQ (zCH c.Hs)=H at *;clear sm1 sm2 hP hHs;have hHok:=hHm.bd.ok xD;have hM:=zTI p sp.ok H hHok
 obtain⟨hx1,hx2,hx3⟩:=makeV_ok p H
 have hH1:HgSm H:=hHm;generalize zBx p H=V at *
 obtain⟨x,e0⟩:=V
 dsimp only at hM hx1 hx2 hx3;have hMa:=zDb q1 4 xD xD;have a0:=Int.emod_nonneg q1 (show(4:Int)≠0 by omega);have a1:=Int.emod_lt_of_pos q1 (show(0:Int)<4 by omega);generalize q1%4=nn at hMa a0 a1;have hMb:=zDb q0 4 xD xD;have t0:=Int.emod_nonneg q0 (show(4:Int)≠0 by omega);have t1:=Int.emod_lt_of_pos q0 (show(0:Int)<4 by omega);generalize q0%4=t at hMb t0 t1;refine zJ Tryz.func4 rfl rfl Tryz.ntmps4 rfl ?_
 repeat (first
  |refine vB [0] ?_
  | (refine rG 1 ?_
     refine xB Tryz.func5 hSan ?_;refine vA ?_;refine aB ?_)
  | (refine rG 2 ?_
     refine vA ?_;refine xB Tryz.func6 hMd ?_;refine xE6 ?_;refine aB ?_)
  | (refine rG 3 ?_
     refine xE2 ?_;refine xB Tryz.func10 hM ?_;refine xE6 ?_;refine aB ?_)
  |(refine AWp.draw (id:=4) zK ?_;refine xE3 ?_;refine xA ?_;refine xE3 ?_;refine xA ?_;refine xE3 ?_;refine xA ?_;refine xE3 ?_;refine aB ⟨by kernel_rfl,?_⟩))
 refine AWp.weak (S':=
  zC 186 [(4,.c (.pt 4 3 0 0)),(7,.c (bC true)),(8,.c (zC4 p)),(9,.c (lsH H)),(10,.c (.pl 1 3 (lF (plC x)) 0 0)),(12,.c (.pt 12 3 0 0)),(5,.c (.pt 5 2 0 0))] [(4,bxP (plC raw)),(5,pq30 q0 q1),(12,bxP [.ow 20,.ow 21,.ow 22]),(20,chJ x.rp),(21,chJ x.an),(22,chJ x.ch)] [4,12,5,20,21,22]
  ) (Wk.mk [(4,some 4),(5,some 5),(12,some 12),(20,some 38),(21,some 42),(22,some 46)] rfl rfl rfl ?_ ?_) ?_
 ·repeat (first|exact trivial|refine⟨⟨_,rfl,by first|exact LeA.c (zCp rfl rfl rfl rfl)|exact leT⟩,?_⟩)
 ·exact⟨hSm,hSm,HeapOk.box rfl rfl ⟨LeC.ow _ _ rfl,LeC.ow _ _ rfl,LeC.ow _ _ rfl,trivial⟩ rfl,HeapOk.row rfl rfl rfl (fun _ _ _ _=>⟨rfl,rfl⟩),HeapOk.row rfl rfl rfl (fun _ _ _ _=>⟨rfl,rfl⟩),HeapOk.row rfl rfl rfl (fun _ _ _ _=>⟨rfl,rfl⟩),trivial⟩
 clear hSan hMd hM
 repeat (first
  |refine vB [] ?_
  | (refine rG 5 ?_
     first|refine zAE (aU (i:=1) zA) ?_|refine zAE (zBM (i:=1) zA) ?_|refine zAE (zA4 (i:=1) zA) ?_
     refine vA ?_
     first|refine xB Tryz.func12 hMa ?_|refine xB Tryz.func12 hMb ?_
     refine vA ?_;refine aB ?_)
  | (refine rG 6 ?_
     first|refine zAE (aU (i:=0) zA) ?_|refine zAE (zBM (i:=0) zA) ?_|refine zAE (zA4 (i:=0) zA) ?_
     refine vA ?_
     first|refine xB Tryz.func12 hMa ?_|refine xB Tryz.func12 hMb ?_
     refine aB ?_))
 obtain⟨o,ho⟩:∃o,oddP x nn t=o:=⟨_,rfl⟩
 have hoo:zKO o:=by
  rw[←ho];unfold oddP;by_cases c0:t=0
  ·rw[if_pos c0];exact⟨by show x.rp.length≤_;omega,by show x.an.length≤_;omega,by show(x.ch++ [nn]).length≤_;rw[List.length_append,List.length_singleton];omega⟩
  ·rw[if_neg c0]
   by_cases c1:t=1
   ·rw[if_pos c1];exact⟨by show(x.rp++ [nn]).length≤_;rw[List.length_append,List.length_singleton];omega,by show(x.an++ [0]).length≤_;rw[List.length_append,List.length_singleton];omega,by show x.ch.length≤_;omega⟩
   ·rw[if_neg c1]
    by_cases c2:t=2
    ·rw[if_pos c2];exact⟨by show x.rp.length≤_;omega,by show x.an.length≤_;omega,by show(List.replicate _ _).length≤_;rw[List.length_replicate];omega⟩
    ·rw[if_neg c2];exact⟨by show x.rp.length≤_;omega,by show(List.replicate _ _).length≤_;rw[List.length_replicate];omega,by show x.ch.length≤_;omega⟩
 refine zKt (
  zC 186 [(4,.c (.pt 4 3 0 0)),(7,.c (bC true)),(8,.c (zC4 p)),(9,.c (lsH H)),(10,.c (.pl 1 3 (lF (plC x)) 0 0)),(12,.c (.pt 12 3 0 0))] [(4,bxP (plC raw)),(12,bxP (plC o))] [4,12]
  ) ?_ (fun S2 hw2=> ?_)
 ·unfold oddP at ho
  by_cases c0:t=0
  ·rw [if_pos c0]at ho
   subst ho c0
   repeat (first
    |refine vB [7] ?_
    | (refine rG 8 ?_
       refine xE4 ?_;refine xA ?_;refine xE2 ?_;refine aB ?_))
   refine⟨rfl,Wk.mk [(4,some 4),(12,some 12)] rfl rfl rfl ?_ ?_⟩
   ·exact zB
   ·exact⟨hSm,HeapOk.box rfl rfl ⟨zZ rfl rfl rfl (fun _ _ _ _=>⟨rfl,rfl⟩),zZ rfl rfl rfl (fun _ _ _ _=>⟨rfl,rfl⟩),zZ rfl rfl List.length_append (zDt _ _),trivial⟩ rfl,trivial⟩
  rw[if_neg c0]at ho;by_cases c1:t=1
  ·rw [if_pos c1]at ho
   subst ho c1
   repeat (first
    |refine vB [7,9] ?_
    | (refine rG 10 ?_
       refine xE4 ?_;refine xA ?_;refine xE2 ?_;refine aB ?_)
    | (refine rG 11 ?_
       refine xE3 ?_;refine xA ?_;refine xE2 ?_;refine aB ?_))
   refine⟨rfl,Wk.mk [(4,some 4),(12,some 12)] rfl rfl rfl ?_ ?_⟩
   ·exact zB
   ·exact⟨hSm,HeapOk.box rfl rfl ⟨zZ rfl rfl List.length_append (zDt _ _),zZ rfl rfl List.length_append (zDt _ _),zZ rfl rfl rfl (fun _ _ _ _=>⟨rfl,rfl⟩),trivial⟩ rfl,trivial⟩
  rw[if_neg c1]at ho;by_cases c2:t=2
  ·rw[if_pos c2]at ho
   subst ho c2;refine vB [7,9,12,13] ?_;refine AWp.round (fun k:Nat=>
    zC 186 [(4,.c (.pt 4 3 0 0)),(7,.c (bC true)),(8,.c (zC4 p)),(9,.c (lsH H)),(10,.c (.pl 1 3 (lF (plC x)) 0 0)),(12,.c (.pt 12 3 0 0)),(13,.c (iC nn)),(14,.c (iC (k:Nat)))] [(4,bxP (plC raw)),(12,bxP [.ow 20,.ow 21,.ow 22]),(20,chJ x.rp),(21,chJ x.an),(22,zAc x.ch.length (rpF x.ch nn k))] [4,12,20,21,22]
    ) (fun k=>k≤x.ch.length) (fun k=>x.ch.length-k) 0 (Nat.zero_le _) ?_ (fun k hk=> ?_)
   ·refine Wk.mk [(4,some 4),(12,some 12),(20,some 20),(21,some 21),(22,some 22)] rfl rfl rfl ?_ ?_
    ·exact zB
    ·exact⟨hSm,HeapOk.box rfl rfl ⟨LeC.ow _ _ rfl,LeC.ow _ _ rfl,LeC.ow _ _ rfl,trivial⟩ rfl,HeapOk.row rfl rfl rfl (fun _ _ _ _=>⟨rfl,rfl⟩),HeapOk.row rfl rfl rfl (fun _ _ _ _=>⟨rfl,rfl⟩),HeapOk.row rfl rfl rfl (fun i _ j hj=>by obtain rfl:j=0:=Nat.lt_one_iff.mp hj;exact⟨rfl,rfl⟩),trivial⟩
   by_cases hkl:k<x.ch.length
   ·have hkl':(k:Int)<x.ch.length:=by omega
    repeat (first
     |refine vB [14,15] ?_
     | (refine rG 16 ?_
        refine xE4 ?_
        first|refine zG (aP (k:=k) zA) ?_|refine zI (zH (k:=k) zA) ?_
        refine vA ?_;refine aB ?_))
    refine⟨k+1,hkl,Wk.mk [(4,some 4),(12,some 12),(20,some 20),(21,some 21),(22,some 22)] rfl rfl rfl ?_ ?_,by omega⟩
    ·exact zB
    ·exact⟨hSm,HeapOk.box rfl rfl ⟨LeC.ow _ _ rfl,LeC.ow _ _ rfl,LeC.ow _ _ rfl,trivial⟩ rfl,HeapOk.row rfl rfl rfl (fun _ _ _ _=>⟨rfl,rfl⟩),HeapOk.row rfl rfl rfl (fun _ _ _ _=>⟨rfl,rfl⟩),HeapOk.row rfl rfl rfl (fun i _ j hj=>by have e:=rpF_set x.ch nn k i j hj;exact⟨e,by rw[e];rfl⟩),trivial⟩
   have hkl':¬(k:Int)<x.ch.length:=by omega
   obtain rfl:k=x.ch.length:=by omega
   refine vB [14] ?_
   refine⟨rfl,Wk.mk [(4,some 4),(12,some 12)] rfl rfl rfl ?_ ?_⟩
   ·exact zB
   ·exact⟨hSm,HeapOk.box rfl rfl ⟨zZ rfl rfl rfl (fun _ _ _ _=>⟨rfl,rfl⟩),zZ rfl rfl rfl (fun _ _ _ _=>⟨rfl,rfl⟩),zZ rfl rfl (rpF_all _ _).1 (rpF_all _ _).2,trivial⟩ rfl,trivial⟩
  rw[if_neg c2]at ho;obtain rfl:t=3:=by omega
  subst ho;refine vB [7,9,12,17,18] ?_;refine AWp.round (fun k:Nat=>
   zC 186 [(4,.c (.pt 4 3 0 0)),(7,.c (bC true)),(8,.c (zC4 p)),(9,.c (lsH H)),(10,.c (.pl 1 3 (lF (plC x)) 0 0)),(12,.c (.pt 12 3 0 0)),(13,.c (iC nn)),(15,.c (iC (k:Nat)))] [(4,bxP (plC raw)),(12,bxP [.ow 20,.ow 21,.ow 22]),(20,chJ x.rp),(21,zAc x.an.length (rpF x.an (nn-1) k)),(22,chJ x.ch)] [4,12,20,21,22]
   ) (fun k=>k≤x.an.length) (fun k=>x.an.length-k) 0 (Nat.zero_le _) ?_ (fun k hk=> ?_)
  ·refine Wk.mk [(4,some 4),(12,some 12),(20,some 20),(21,some 21),(22,some 22)] rfl rfl rfl ?_ ?_
   ·exact zB
   ·exact⟨hSm,HeapOk.box rfl rfl ⟨LeC.ow _ _ rfl,LeC.ow _ _ rfl,LeC.ow _ _ rfl,trivial⟩ rfl,HeapOk.row rfl rfl rfl (fun _ _ _ _=>⟨rfl,rfl⟩),HeapOk.row rfl rfl rfl (fun i _ j hj=>by obtain rfl:j=0:=Nat.lt_one_iff.mp hj;exact⟨rfl,rfl⟩),HeapOk.row rfl rfl rfl (fun _ _ _ _=>⟨rfl,rfl⟩),trivial⟩
  by_cases hkl:k<x.an.length
  ·have hkl':(k:Int)<x.an.length:=by omega
   repeat (first
    |refine vB [19,20] ?_
    | (refine rG 21 ?_
       refine xE5 ?_
       first|refine zG (aP (k:=k) zA) ?_|refine zI (zH (k:=k) zA) ?_
       refine vA ?_;refine aB ?_))
   refine⟨k+1,hkl,Wk.mk [(4,some 4),(12,some 12),(20,some 20),(21,some 21),(22,some 22)] rfl rfl rfl ?_ ?_,by omega⟩
   ·exact zB
   ·exact⟨hSm,HeapOk.box rfl rfl ⟨LeC.ow _ _ rfl,LeC.ow _ _ rfl,LeC.ow _ _ rfl,trivial⟩ rfl,HeapOk.row rfl rfl rfl (fun _ _ _ _=>⟨rfl,rfl⟩),HeapOk.row rfl rfl rfl (fun i _ j hj=>by have e:=rpF_set x.an (nn-1) k i j hj;exact⟨e,by rw[e];rfl⟩),HeapOk.row rfl rfl rfl (fun _ _ _ _=>⟨rfl,rfl⟩),trivial⟩
  have hkl':¬(k:Int)<x.an.length:=by omega
  obtain rfl:k=x.an.length:=by omega
  refine vB [19] ?_
  refine⟨rfl,Wk.mk [(4,some 4),(12,some 12)] rfl rfl rfl ?_ ?_⟩
  ·exact zB
  ·exact⟨hSm,HeapOk.box rfl rfl ⟨zZ rfl rfl rfl (fun _ _ _ _=>⟨rfl,rfl⟩),zZ rfl rfl (rpF_all _ _).1 (rpF_all _ _).2,zZ rfl rfl rfl (fun _ _ _ _=>⟨rfl,rfl⟩),trivial⟩ rfl,trivial⟩
 refine uD ?_;refine uB ?_;refine AWp.weak hw2 ?_;clear hw2 ho hMa hMb;clear a0 a1 t0 t1;have hxo:zKO x:=⟨by omega,by omega,by omega⟩
 obtain⟨m1,hm1⟩:∃m,m=min raw.rp.length 3:=⟨_,rfl⟩
 have hm1':min (raw.rp.length:Int) 3=(m1:Int):=by omega
 have hm1l:m1≤raw.rp.length:=by omega
 obtain⟨m2,hm2⟩:∃m,m=min raw.an.length 3:=⟨_,rfl⟩
 have hm2':min (raw.an.length:Int) 3=(m2:Int):=by omega
 have hm2l:m2≤raw.an.length:=by omega
 obtain⟨m3,hm3⟩:∃m,m=min raw.ch.length 3:=⟨_,rfl⟩
 have hm3':min (raw.ch.length:Int) 3=(m3:Int):=by omega
 have hm3l:m3≤raw.ch.length:=by omega
 obtain⟨r,hr⟩:∃r:Pl,r=⟨raw.rp.take m1,raw.an.take m2,raw.ch.take m3⟩:=⟨_,rfl⟩
 have hro:zKO r:=by
  rw[hr]
  exact⟨by show(List.take _ _).length≤_;rw[List.length_take];omega,by show(List.take _ _).length≤_;rw[List.length_take];omega,by show(List.take _ _).length≤_;rw[List.length_take];omega⟩
 repeat (first
  |refine vB [23] ?_
  |(refine AWp.draw (id:=22) zK ?_;refine xE6 ?_;refine AList.cut (l:=0) (h:=m1) zA rfl rfl rfl rfl rfl rfl rfl rfl ⟨_,_,rfl,by first|rfl|omega⟩ xD xD ?_;refine xE6 ?_;refine AList.cut (l:=0) (h:=m2) zA rfl rfl rfl rfl rfl rfl rfl rfl ⟨_,_,rfl,by first|rfl|omega⟩ xD xD ?_;refine xE6 ?_;refine AList.cut (l:=0) (h:=m3) zA rfl rfl rfl rfl rfl rfl rfl rfl ⟨_,_,rfl,by first|rfl|omega⟩ xD xD ?_;refine xE2 ?_;refine aB ⟨by kernel_rfl,?_⟩))
 refine AWp.round (fun i:Nat=>zC 186 [(7,.c (bC true)),(8,.c (zC4 p)),(9,.c (lsH H)),(129,.ag (plC x++plC o++plC r)),(130,.c (iC (i:Nat)))] [] []) (fun i=>i≤3) (fun i=>3-i) 0 (Nat.zero_le _) ?_ (fun i hi=> ?_)
 ·subst hr
  refine Wk.mk [] rfl rfl rfl ?_ trivial
  repeat (first|exact trivial|refine⟨⟨_,rfl,by first|exact LeA.ag ⟨LeC.refl _ rfl,LeC.refl _ rfl,LeC.refl _ rfl,LeC.refl _ rfl,LeC.refl _ rfl,LeC.refl _ rfl,zCO (by rw[List.length_take];omega) (zJH hm1l),zCO (by rw[List.length_take];omega) (zJH hm2l),zCO (by rw[List.length_take];omega) (zJH hm3l),trivial⟩|exact leT⟩,?_⟩)
 clear hr hm1 hm2 hm3 hm1' hm2' hm3' hm1l hm2l hm3l;by_cases hi3:i<3;rotate_left
 ·have hi3':¬(i:Int)<3:=by omega
  refine vB [24,36] ?_
  refine⟨zC 186 [(6,.c (bC true))] [] [],[],Wk.mk [] rfl rfl rfl ?_ trivial,rfl,rfl,aR1⟩
  exact zB
 have hi3':(i:Int)<3:=by omega
 obtain⟨y,ey,hy⟩:∃y,((plC x++plC o++plC r).drop (i*3)).take 3=plC y∧zKO y:=by
  match i,hi3 with
  |0,_=>exact⟨x,rfl,hxo⟩
  |1,_=>exact⟨o,rfl,hoo⟩
  |2,_=>exact⟨r,rfl,hro⟩
 obtain⟨L,L',e,e',b,hLL,hee,f1,f2,f3,f4,f5,f6⟩:=hfacts p sp spC H hH1 y hy
 have hLl:(L.length:Int)=L'.length:=by rw[hLL]
 have hnb:=neB30 b;have hgk:∀k,k<L.length→ACalls Tryz.prog 17 [.c (zC2 (L.getD k [])),.c (zC2 (L'.getD k []))] (.c (bC true)):=fun k hk=>rSame30_A _ _ (by rw[hLL]) (f5 _ (zAB hk))
 clear hLL f5;refine vB [24] ?_;refine aY ?_;refine AList.index (i:=i) zA (ey) rfl rfl rfl rfl rfl rfl rfl rfl (by first|rfl|omega) oM ?_;refine xE2 ?_;refine aB ?_
 repeat (first
  |refine vB [30] ?_
  | (refine rG 26 ?_
     refine xE3 ?_;refine xB Tryz.func13 f1 ?_;refine xE5 ?_;refine aB ?_)
  | (refine rG 27 ?_
     refine xE3 ?_;refine xB Tryz.func14 f2 ?_;refine xE5 ?_;refine aB ?_)
  |(refine AWp.draw (id:=28) zK ?_;refine xE3 ?_;refine xB Tryz.func15 f3 ?_;refine xE3 ?_;refine xB Tryz.func16 f4 ?_;refine zCo rfl rfl rfl rfl rfl (hnb) rfl ?_;refine zHE ?_;refine aB ⟨by kernel_rfl,?_⟩))
 refine AWp.round (fun k:Nat=>zC 186 [(7,.c (bC true)),(8,.c (zC4 p)),(9,.c (lsH H)),(18,.c (lsW L)),(20,.c (lsW L')),(22,.c (iC (k:Nat))),(129,.ag (plC x++plC o++plC r)),(130,.c (iC (i:Nat)))] [] []) (fun k=>k≤L.length) (fun k=>L.length-k) 0 (Nat.zero_le _) ?_ (fun k hk=> ?_)
 ·refine Wk.mk [] rfl rfl rfl ?_ trivial
  repeat (first|exact trivial|refine⟨⟨_,rfl,by first|exact LeA.ag ⟨LeC.refl _ rfl,LeC.refl _ rfl,LeC.refl _ rfl,LeC.refl _ rfl,LeC.refl _ rfl,LeC.refl _ rfl,LeC.refl _ rfl,LeC.refl _ rfl,LeC.refl _ rfl,trivial⟩|exact leT⟩,?_⟩)
 by_cases hkL:k<L.length
 ·have hkL':(k:Int)<L.length:=by omega
  have hSk:=hgk k hkL
  obtain⟨l,hl⟩:∃l,L.getD k []=l:=⟨_,rfl⟩
  obtain⟨l',hl'⟩:∃l,L'.getD k []=l:=⟨_,rfl⟩
  have e1:(fun k (_:Nat)=>zC2 (L.getD k [])) k 0=zC2 l:=by rw[←hl]
  have e2:(fun k (_:Nat)=>zC2 (L'.getD k [])) k 0=zC2 l':=by rw[←hl']
  rw[hl,hl']at hSk
  repeat (first
   |refine vB [31,32] ?_
   |(refine AWp.draw (id:=33) zK ?_;refine xE2 ?_;(first|refine zG (aP (k:=k) zA) ?_|refine zI (zH (k:=k) zA) ?_);(first|refine zY zA (e1) rfl rfl rfl rfl rfl oM ?_|refine zAp zA rfl rfl rfl rfl rfl rfl rfl oM oM (e1) ?_);refine xE2 ?_;(first|refine zG (aP (k:=k) zA) ?_|refine zI (zH (k:=k) zA) ?_);(first|refine zY zA (e2) rfl rfl rfl rfl rfl oM ?_|refine zAp zA rfl rfl rfl rfl rfl rfl rfl oM oM (e2) ?_);refine xB Tryz.func17 hSk ?_;refine vA ?_;refine aB ⟨by kernel_rfl,?_⟩))
  refine⟨k+1,hkL,Wk.mk [] rfl rfl rfl ?_ trivial,by omega⟩
  repeat (first|exact trivial|refine⟨⟨_,rfl,by first|exact LeA.ag ⟨LeC.refl _ rfl,LeC.refl _ rfl,LeC.refl _ rfl,LeC.refl _ rfl,LeC.refl _ rfl,LeC.refl _ rfl,LeC.refl _ rfl,LeC.refl _ rfl,LeC.refl _ rfl,trivial⟩|exact leT⟩,?_⟩)
 have hkL':¬(k:Int)<L.length:=by omega
 refine vB [31,35] ?_
 refine⟨i+1,hi3,Wk.mk [] rfl rfl rfl ?_ trivial,by omega⟩
 repeat (first|exact trivial|refine⟨⟨_,rfl,by first|exact LeA.ag ⟨LeC.refl _ rfl,LeC.refl _ rfl,LeC.refl _ rfl,LeC.refl _ rfl,LeC.refl _ rfl,LeC.refl _ rfl,LeC.refl _ rfl,LeC.refl _ rfl,LeC.refl _ rfl,trivial⟩|exact leT⟩,?_⟩)
end Go.Proofs.YtbffmfeldkjkcaaGreat
end
section
namespace Go.Proofs.YtbffmfeldkjkcaaGreat
open Go.ChangeShapes Go.WideShapes Go.ChangeAt Go.RowKit Go.Flow Go.AV
section
variable{H:Type}{enc:TypeId×Value→H}{W:World}
theorem opn_pl:Opn enc Tryz.prog W 41 plC (fun x=>x.rp.length≤4611686018427387904∧x.an.length≤4611686018427387904∧x.ch.length≤4611686018427387904):=
 (Opn.struct Tryz.underlying41 (n:=3) xC (.cons zTd rfl zGJ (.cons zTd rfl zGJ (.cons zTd rfl zGJ .nil)))).conv fun a h=>
   ⟨⟨a.1,a.2.1,a.2.2.1⟩,⟨h.1.1,h.2.1.1,h.2.2.1.1⟩,fun _ h=>h⟩
end
end Go.Proofs.YtbffmfeldkjkcaaGreat
namespace Go.Proofs.YtbffmfeldkjkcaaGreat.reprintHolds
open Go.ChangeShapes Go.WideShapes Go.ChangeAt Go.RowKit Go.Flow Go.AV
theorem contract(H:Type)(enc:TypeId×Value→H)(W:World)(base:Nat)(args:Array Value)(ds gs:List (DataW H))(before:List MemPlace)
 (hval:∀(j:Nat) t v,Tryz.f4.params[j]?=some t→args[j]?=some v→Value.okWide Tryz.prog W .any base t v)
 (hW:DataW.Whole enc Tryz.prog Tryz.f4.params.toList Rows.reprintHoldsSpec.vars false W args.toList ds gs before)
 (hsz:(DataW.weightsEach Tryz.prog (Tryz.f4.params.toList++(OpenSpec.ofChange Rows.reprintHoldsSpec).bare.plain.varTypes Tryz.prog) (ds++gs)).all (·≤reachBytes)=true):
 Calls Tryz.prog 4 args W fun e W'=>∃v,e=.returned v∧Rows.reprintHoldsSpec.post enc Tryz.prog Tryz.f4 false true false false W args v W':=by
 have hW':=hW
 obtain⟨p,q,hA0,hV,rfl,hfz,hnd⟩:=hW
 have hA:DataW.TrodAll enc Tryz.prog W 0 (fun _=>true) true Tryz.f4.params.toList args.toList ds p:=hA0;have hAk:=hA0;rw[Tryz.params4]at hA hval hsz
 obtain⟨rfl,rfl⟩:=trodVars_none hV
 obtain⟨v0,vs0,d0,ds0,p0,q0,hargs,rfl,rfl,h0,t0⟩:=trodAll_cons hA
 obtain⟨v1,vs1,d1,ds1,p1,q1,rfl,rfl,rfl,h1,t1⟩:=trodAll_cons t0
 obtain⟨v2,vs2,d2,ds2,p2,q2,rfl,rfl,rfl,h2,t2⟩:=trodAll_cons t1
 obtain⟨rfl,rfl,rfl⟩:=trodAll_nil t2
 obtain rfl:args= #[v0,v1,v2]:=by rw[←Array.toList_inj];exact hargs
 have hlt:=fun x hx=>hW'.lt x hx
 simp only[List.append_nil]at hW'
 rw[List.append_nil]at hsz
 obtain⟨a0,ok0,r0⟩:=opn_ca30.argS Tryz.underlying27 (hval 0 27 v0 rfl rfl) h0 (zOe hsz 0 (t:=27) (d:=d0) rfl rfl)
 obtain⟨a1,ok1,r1⟩:=opn_pl.argS Tryz.underlying41 (hval 1 41 v1 rfl rfl) h1 (zOe hsz 1 (t:=41) (d:=d1) rfl rfl)
 obtain⟨a2,ok2,r2⟩:=opn_q2.argA Tryz.underlying25 (hval 2 25 v2 rfl rfl) h2 (zOe hsz 2 (t:=25) (d:=d2) rfl rfl)
 refine((ECalls.of (ReprintHolds_A a0 ok0 a1 ok1.1 ok1.2.1 ok1.2.2 a2.1 a2.2)) O0 W [_,_,_] (fun b h=>h.elim) ⟨r0,r1,r2,trivial⟩).mono fun e W' ⟨v,r,he,hr,hv,hE⟩=> ?_
 subst hr;obtain rfl:v=.bool true:=hv.2;subst he
 exact⟨_,rfl,zRt (pv:= []) hW' (fun _ _ _=>trodAll_cons_mk (shut_bool Tryz.underlying4 _) trodAll_mk0)
  (fun sp hsp=>zN6 zQS hE (by rw[Tryz.params4];intro t ht;simp only[List.mem_cons,List.not_mem_nil,or_false]at ht;rcases ht with rfl|rfl|rfl<;>exact⟨by kernel_rfl,of_decide_eq_true xC⟩) hAk (fun x hx=>hlt x (by rw[List.append_nil];exact hx)) sp (fun x hx=>hsp x (by simpa only[List.append_nil]using hx)))
  (fun _ _=>rfl) (by simp) hE (ok_one xC rfl (okWide_bool_mk Tryz.underlying4 _))⟩
theorem own:ownKnob Tryz.prog.godebug=none:=by kernel_rfl
theorem lifted(os:Os)(started:os.Started)(H:Type)(enc:TypeId×Value→H):
 ReturnsInHanded {} Tryz.checked os 4 .any (Rows.reprintHoldsSpec.pre6 enc Tryz.prog Tryz.f4 Rows.reprintHoldsRow.domain false) (Rows.reprintHoldsSpec.post enc Tryz.prog Tryz.f4 false true false false):=by
 refine returnsInHanded_of_change_sized (C:=Tryz.checked) own started xC Tryz.func4
  (ChangeSpec.witness6 (enc:=enc) (C:=Tryz.checked) false ⟨#[], #[.agg #[.slice none 0 0,.slice none 0 0,.slice none 0 0,.int .i64 0,.int .i64 0,.int .i64 0,.int .i64 0,.int .i64 0],.agg #[.slice none 0 0,.slice none 0 0,.slice none 0 0],.agg #[.int .i64 0,.int .i64 0]],[]⟩ 8 xC xC xC xC) ?_
 intro W base args ds gs before hval hW _ hsz _;exact contract H enc W base args ds gs before hval hW hsz
theorem said:Rows.ReprintHoldsSaid:=
 OpenClaim.holds_of_wide 4 Tryz.f4 rfl rfl rfl rfl rfl rfl rfl ⟨rfl,rfl,rfl,rfl,rfl⟩ rfl rfl rfl rfl rfl xC Tryz.func4 xC
  (of_decide_eq_true xC) (by unfold Func.isWrapper;first|(rw[if_pos (by decide +kernel)];kernel_rfl)|(rw[if_neg (by decide +kernel)];exact⟨rfl,rfl⟩))
  (fun os started H enc _=>lifted os started H enc)
end Go.Proofs.YtbffmfeldkjkcaaGreat.reprintHolds
end
