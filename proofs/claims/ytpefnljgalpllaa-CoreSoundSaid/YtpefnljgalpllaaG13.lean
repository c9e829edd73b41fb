/- Parts of the proof: A24g, A24h. -/
import Derived.Test.YtpefnljgalpllaaG12
set_option linter.unusedSimpArgs false
set_option linter.unusedVariables false
set_option maxHeartbeats 0
section
namespace Go.Proofs.Ytpefnljgalpllaa
open Go.RowKit Go.Flow Go.AV Go.AV.Srt
theorem AWp.join2{P:Program}{x y z:Code}{Q:Exit→St→Prop}{S:St}(S1:St)(h:AWp P x (thenA (AWp P y (fun e S'=>e=.normal∧Wk S' S1)) (fun e S'=>e=.normal∧Wk S' S1)) S)(hz:AWp P z Q S1):
 AWp P x (thenA (AWp P y (thenA (AWp P z Q) Q)) (thenA (AWp P z Q) Q)) S:=h.mono fun e S' h=>by
 cases e with
 |normal=>exact AWp.mono h fun e S' ⟨he,hw⟩=>by subst he;exact AWp.weak hw hz
 |_=>cases h.1
def SymC(f:Nat):Prop:=∀(L:List (Int×Int)) (a m b:Nat) (C:Nat→CV),a<m→m<b→b≤L.length→L.length≤1000→Oks L→b-a≤f→
    HCalls Try.prog 100 [.c (.ow 1000),.c (iC a),.c (iC m),.c (iC b),.c (cmpC C)] [(1000,mvB L)] (.tu []) [(1000,mvB (sym moZ mvLt f a m b L))]
set_option maxRecDepth 100000 in
theorem sym_gen(f:Nat)(ih:SymC f)(L:List (Int×Int))(a m b:Nat)(C:Nat→CV)(h1:a<m)(h2:m<b)(hb:b≤L.length)(hn:L.length≤1000)(hL:Oks L)(hf:b-a≤f+1)(hc0:¬m-a=1)(hc1:¬b-m=1):
 HCalls Try.prog 100 [.c (.ow 1000),.c (iC a),.c (iC m),.c (iC b),.c (cmpC C)] [(1000,mvB L)] (.tu []) [(1000,mvB (sym moZ mvLt (f+1) a m b L))]:=by
 refine hcalls_at Try.func100 rfl rfl Try.ntmps100 rfl rfl (fun p hp=>by cases hp with|head=>exact fun k j _ _=>rowF_imm mo_imm _ k j|tail _ h=>cases h) ?_
 have hu0:=half_u (i:=a) (j:=b) (by omega)
 have hi0:=half_i (i:=a) (j:=b) (by omega)
 obtain⟨d,hd⟩:∃d,(a+b)/2=d:=⟨_,rfl⟩
 rw[hd]at hi0
 have hdb:a<d∧d<b∧2*d≤a+b∧a+b≤2*d+1:=by omega
 obtain⟨s0,hs0⟩:∃s0,(if d<m then d+m-b else a)=s0:=⟨_,rfl⟩
 obtain⟨r0,hr0⟩:∃r0,(if d<m then d else m)=r0:=⟨_,rfl⟩
 have hsr:a≤s0∧s0≤r0∧r0≤m∧r0≤d∧d+m-s0≤b:=by
  rw[←hs0,←hr0]
  split<;>omega
 obtain⟨T,hT⟩:∃T:Nat→Bool,T=fun c=> !(mvLt (L.getD (d+m-1-c) moZ) (L.getD c moZ)):=⟨_,rfl⟩
 obtain⟨s,hse⟩:∃s,bs T (r0-s0) s0 r0=s:=⟨_,rfl⟩
 have hsb:=bs_bd T (r0-s0) s0 r0 hsr.2.1
 rw[hse]at hsb
 obtain⟨e,he⟩:∃e,d+m-s=e:=⟨_,rfl⟩
 obtain⟨L1,hL1⟩:∃L1,(if s<m∧m<e then rot moZ m (e-s) (m-s) (e-m) L else L)=L1:=⟨_,rfl⟩
 obtain⟨L2,hL2⟩:∃L2,(if a<s∧s<d then sym moZ mvLt f a s d L1 else L1)=L2:=⟨_,rfl⟩
 obtain⟨L3,hL3⟩:∃L3,(if d<e∧e<b then sym moZ mvLt f d e b L2 else L2)=L3:=⟨_,rfl⟩
 have hsy:sym moZ mvLt (f+1) a m b L=L3:=by
  unfold sym
  rw[if_neg hc0,if_neg hc1]
  dsimp only
  rw[hd,hs0,hr0,←hT,hse,he,hL1,hL2,hL3]
 have hL1o:Oks L1∧L1.length=L.length:=by
  rw[←hL1]
  split
  ·exact⟨rot_oks m _ _ _ _ (by omega) (by omega) hL,rot_len _ _ _ _ _⟩
  ·exact⟨hL,rfl⟩
 have hL2o:Oks L2∧L2.length=L.length:=by
  rw[←hL2]
  split
  ·rename_i hc;exact⟨sym_oks f _ _ _ _ hc.1 hc.2 (by rw[hL1o.2];omega) hL1o.1,by rw[sym_len];exact hL1o.2⟩
  ·exact hL1o
 have hL3l:L3.length=L.length:=by
  rw[←hL3]
  split
  ·rw[sym_len];exact hL2o.2
  ·exact hL2o.2
 rw[hsy]
 repeat (first
  |refine vB [0,12,25,26] ?_
  | (refine rG 24 ?_
     (iterate 3 refine vA ?_)
     refine AList.convI (hu0) (by kernel_rfl) Try.underlying166 rfl rfl rfl ?_
     refine qr4 AList.shr1 ?_
     refine AList.convI (hi0) (by kernel_rfl) Try.underlying3 rfl rfl rfl ?_
     refine vA ?_
     refine aB ?_))
 refine AWp.join2 (mkL 220 1 (sySl a m b C++ [(18,.c (iC d)),(19,.c (iC ((d:Int)+m))),(20,.c (iC s0)),(21,.c (iC r0))]) [(1000,mvB L)] []) ?_ ?_
 ·by_cases hdm:d<m
  ·rw[if_pos hdm]at hs0 hr0
   refine vB [27,28,29,30,31] ?_
   refine⟨rfl,?_⟩
   refine Wk.mkL [] rfl rfl rfl rfl rfl ?_ ?_
   ·exact allF
   ·exact⟨HeapOk.lentRow rfl rfl (fun i _ j _=>⟨rfl,rowF_imm mo_imm _ i j⟩),trivial⟩
  ·rw[if_neg hdm]at hs0 hr0
   refine vB [27,28,29,30,31] ?_
   refine⟨rfl,?_⟩
   refine Wk.mkL [] rfl rfl rfl rfl rfl ?_ ?_
   ·exact allF
   ·exact⟨HeapOk.lentRow rfl rfl (fun i _ j _=>⟨rfl,rowF_imm mo_imm _ i j⟩),trivial⟩
 refine vB [32] ?_
 refine AWp.round (fun t:Nat×Nat×Nat=>mkL 220 1 (sySl a m b C++ [(18,.c (iC d)),(19,.c (iC ((d:Int)+m))),(20,.c (iC t.2.1)),(21,.c (iC t.2.2)),(22,.c (iC ((d:Int)+m-1)))]) [(1000,mvB L)] [])
  (fun t=>s0≤t.2.1∧t.2.1≤t.2.2∧t.2.2≤r0∧t.2.2-t.2.1≤t.1∧bs T t.1 t.2.1 t.2.2=s) (fun t=>t.1) (r0-s0,s0,r0) ⟨Nat.le_refl _,hsr.2.1,Nat.le_refl _,Nat.le_refl _,hse⟩ ?_ (fun t ht=> ?_)
 ·refine Wk.mkL [] rfl rfl rfl rfl rfl ?_ ?_
  ·exact allF
  ·exact⟨HeapOk.lentRow rfl rfl (fun i _ j _=>⟨rfl,rowF_imm mo_imm _ i j⟩),trivial⟩
 ·obtain ⟨g,i,j⟩:=t
  obtain⟨q1,q2,q3,q4,q5⟩:=ht
  dsimp only at q1 q2 q3 q4 q5
  dsimp only
  by_cases hij:i<j
  ·obtain⟨g,rfl⟩:∃k,g=k+1:=⟨g-1,by omega⟩
   have hu:=half_u (i:=i) (j:=j) (by omega)
   have hi:=half_i (i:=i) (j:=j) (by omega)
   obtain⟨c,hh⟩:∃c,(i+j)/2=c:=⟨_,rfl⟩
   rw[hh]at hi
   have hhb:i≤c∧c<j:=by omega
   have hcm:=cmp_A (L.getD (d+m-1-c) moZ) (L.getD c moZ) (hL _) (hL _)
   have q5':(if T c=true then bs T g (c+1) j else bs T g i c)=s:=by
    rw[←q5,←hh]
    show _=if i<j then (if T ((i+j)/2)=true then bs T g ((i+j)/2+1) j else bs T g i ((i+j)/2))else i
    rw[if_pos hij]
   by_cases hl:mvLt (L.getD (d+m-1-c) moZ) (L.getD c moZ)=true
   ·have hl':=mvCmp_lt.1 hl
    rw[if_neg (by rw[hT];simp only[hl];decide)]at q5'
    repeat (first
     |refine vB [33,36,37] ?_
     | (refine rG 34 ?_
        (iterate 3 refine vA ?_)
        refine AList.convI (hu) (by kernel_rfl) Try.underlying166 rfl rfl rfl ?_
        refine qr4 AList.shr1 ?_
        refine AList.convI (hi) (by kernel_rfl) Try.underlying3 rfl rfl rfl ?_
        refine vA ?_
        refine aB ?_)
     |(refine AWp.draw (id:=35) mixed ?_;(iterate 5 refine vA ?_);(first|refine qr8eo2 (aP (k:=d+m-1-c) tyOk) ?_|refine qr10eo (AList.idxOw (k:=d+m-1-c) tyOk) ?_);(iterate 3 refine vA ?_);(first|refine qr8eo2 (aP (k:=c) tyOk) ?_|refine qr10eo (AList.idxOw (k:=c) tyOk) ?_);refine vA ?_;refine AList.call0 rfl rfl rfl rfl rfl Try.func81 rfl (by kernel_rfl) (hcm) ?_;(iterate 2 refine vA ?_);refine aB ⟨by kernel_rfl,?_⟩))
    refine⟨(g,i,c),⟨q1,by dsimp only;omega,by dsimp only;omega,by dsimp only;omega,q5'⟩,Wk.mkL [] rfl rfl rfl rfl rfl ?_ ?_,by dsimp only;omega⟩
    ·exact allF
    ·exact⟨HeapOk.lentRow rfl rfl (fun i _ j _=>⟨rfl,rowF_imm mo_imm _ i j⟩),trivial⟩
   ·have hl':¬mvCmp (L.getD (d+m-1-c) moZ) (L.getD c moZ)<0:=fun h=>hl (mvCmp_lt.2 h)
    rw[if_pos (by rw[hT];simp only[Bool.eq_false_iff.2 hl];decide)]at q5'
    repeat (first
     |refine vB [33,36,37] ?_
     | (refine rG 34 ?_
        (iterate 3 refine vA ?_)
        refine AList.convI (hu) (by kernel_rfl) Try.underlying166 rfl rfl rfl ?_
        refine qr4 AList.shr1 ?_
        refine AList.convI (hi) (by kernel_rfl) Try.underlying3 rfl rfl rfl ?_
        refine vA ?_
        refine aB ?_)
     |(refine AWp.draw (id:=35) mixed ?_;(iterate 5 refine vA ?_);(first|refine qr8eo2 (aP (k:=d+m-1-c) tyOk) ?_|refine qr10eo (AList.idxOw (k:=d+m-1-c) tyOk) ?_);(iterate 3 refine vA ?_);(first|refine qr8eo2 (aP (k:=c) tyOk) ?_|refine qr10eo (AList.idxOw (k:=c) tyOk) ?_);refine vA ?_;refine AList.call0 rfl rfl rfl rfl rfl Try.func81 rfl (by kernel_rfl) (hcm) ?_;(iterate 2 refine vA ?_);refine aB ⟨by kernel_rfl,?_⟩))
    refine⟨(g,c+1,j),⟨by dsimp only;omega,by dsimp only;omega,q3,by dsimp only;omega,q5'⟩,Wk.mkL [] rfl rfl rfl rfl rfl ?_ ?_,by dsimp only;omega⟩
    ·exact allF
    ·exact⟨HeapOk.lentRow rfl rfl (fun i _ j _=>⟨rfl,rowF_imm mo_imm _ i j⟩),trivial⟩
  ·obtain rfl:i=s:=by rw[←q5];exact(bs_stop hij).symm
   have hei:(e:Int)=(d:Int)+m-i:=by omega
   have hp:0<L.length:=by omega
   have hp1:0<L1.length:=by omega
   have hp2:0<L2.length:=by omega
   refine vB [33,38] ?_
   refine AWp.join2 (mkL 220 1 (sySl a m b C++ [(18,.c (iC d)),(20,.c (iC i)),(24,.c (iC e))]) [(1000,mvB L1)] []) ?_ ?_
   ·by_cases c1:i<m
    ·by_cases c2:m<e
     ·rw [if_pos ⟨c1,c2⟩]at hL1
      have hR:=rotate_H L i m e (fun i=>lendB [1000] (C i)) c1 c2 (by omega) hn
      rw[hL1]at hR
      rw[hei]at hR
      repeat (first
       |refine vB [39] ?_
       | (refine rG 40 ?_
          (iterate 5 refine vA ?_)
          refine AList.callH [1000] [mvB L] [mvB L1] rfl rfl rfl Try.func102 rfl (by kernel_rfl) (LendOk.row rfl hp (fun i _ j _=>⟨rfl,rowF_imm mo_imm _ i j⟩) trivial) rfl (LendImm.row (fun i _ j _=>rowF_imm mo_imm _ i j) trivial) (hR) ?_
          refine aB ?_))
      refine⟨rfl,?_⟩
      refine Wk.mkL [] rfl rfl rfl rfl rfl ?_ ?_
      ·exact allF
      ·exact⟨HeapOk.lentRow rfl rfl (fun i _ j _=>⟨rfl,rowF_imm mo_imm _ i j⟩),trivial⟩
     ·rw[if_neg fun h=>c2 h.2]at hL1
      rw[←hL1]
      refine vB [39] ?_
      refine⟨rfl,?_⟩
      refine Wk.mkL [] rfl rfl rfl rfl rfl ?_ ?_
      ·exact allF
      ·exact⟨HeapOk.lentRow rfl rfl (fun i _ j _=>⟨rfl,rowF_imm mo_imm _ i j⟩),trivial⟩
    ·rw[if_neg fun h=>c1 h.1]at hL1
     rw[←hL1]
     refine vB [39] ?_
     refine⟨rfl,?_⟩
     refine Wk.mkL [] rfl rfl rfl rfl rfl ?_ ?_
     ·exact allF
     ·exact⟨HeapOk.lentRow rfl rfl (fun i _ j _=>⟨rfl,rowF_imm mo_imm _ i j⟩),trivial⟩
   (iterate 2 refine uA ?_)
   refine AWp.join2 (mkL 220 1 (sySl a m b C++ [(18,.c (iC d)),(20,.c (iC i)),(24,.c (iC e))]) [(1000,mvB L2)] []) ?_ ?_
   ·by_cases c1:a<i
    ·by_cases c2:i<d
     ·rw [if_pos ⟨c1,c2⟩]at hL2
      have hR:=ih L1 a i d (fun i=>lendB [1000] (C i)) c1 c2 (by omega) (by omega) hL1o.1 (by omega)
      rw[hL2]at hR
      repeat (first
       |refine vB [41] ?_
       | (refine rG 42 ?_
          (iterate 5 refine vA ?_)
          refine AList.callH [1000] [mvB L1] [mvB L2] rfl rfl rfl Try.func100 rfl (by kernel_rfl) (LendOk.row rfl hp1 (fun i _ j _=>⟨rfl,rowF_imm mo_imm _ i j⟩) trivial) rfl (LendImm.row (fun i _ j _=>rowF_imm mo_imm _ i j) trivial) (hR) ?_
          refine aB ?_))
      refine⟨rfl,?_⟩
      refine Wk.mkL [] rfl rfl rfl rfl rfl ?_ ?_
      ·exact allF
      ·exact⟨HeapOk.lentRow rfl rfl (fun i _ j _=>⟨rfl,rowF_imm mo_imm _ i j⟩),trivial⟩
     ·rw[if_neg fun h=>c2 h.2]at hL2
      rw[←hL2]
      refine vB [41] ?_
      refine⟨rfl,?_⟩
      refine Wk.mkL [] rfl rfl rfl rfl rfl ?_ ?_
      ·exact allF
      ·exact⟨HeapOk.lentRow rfl rfl (fun i _ j _=>⟨rfl,rowF_imm mo_imm _ i j⟩),trivial⟩
    ·rw[if_neg fun h=>c1 h.1]at hL2
     rw[←hL2]
     refine vB [41] ?_
     refine⟨rfl,?_⟩
     refine Wk.mkL [] rfl rfl rfl rfl rfl ?_ ?_
     ·exact allF
     ·exact⟨HeapOk.lentRow rfl rfl (fun i _ j _=>⟨rfl,rowF_imm mo_imm _ i j⟩),trivial⟩
   by_cases c1:d<e
   ·by_cases c2:e<b
    ·rw [if_pos ⟨c1,c2⟩]at hL3
     have hR:=ih L2 d e b (fun i=>lendB [1000] (C i)) c1 c2 (by omega) (by omega) hL2o.1 (by omega)
     rw[hL3]at hR
     repeat (first
      |refine vB [43] ?_
      | (refine rG 44 ?_
         (iterate 5 refine vA ?_)
         refine AList.callH [1000] [mvB L2] [mvB L3] rfl rfl rfl Try.func100 rfl (by kernel_rfl) (LendOk.row rfl hp2 (fun i _ j _=>⟨rfl,rowF_imm mo_imm _ i j⟩) trivial) rfl (LendImm.row (fun i _ j _=>rowF_imm mo_imm _ i j) trivial) (hR) ?_
         refine aB ?_))
     refine⟨mkL 220 1 [] [(1000,mvB (L3))] [],[],Wk.mkL [] rfl rfl rfl rfl rfl trivial ?_,rfl,rfl,ARets.no⟩
     exact⟨HeapOk.lentRow rfl rfl (fun i _ j _=>⟨rfl,rowF_imm mo_imm _ i j⟩),trivial⟩
    ·rw[if_neg fun h=>c2 h.2]at hL3
     rw[←hL3]
     refine vB [43] ?_
     refine⟨mkL 220 1 [] [(1000,mvB (L2))] [],[],Wk.mkL [] rfl rfl rfl rfl rfl trivial ?_,rfl,rfl,ARets.no⟩
     exact⟨HeapOk.lentRow rfl rfl (fun i _ j _=>⟨rfl,rowF_imm mo_imm _ i j⟩),trivial⟩
   ·rw[if_neg fun h=>c1 h.1]at hL3
    rw[←hL3]
    refine vB [43] ?_
    refine⟨mkL 220 1 [] [(1000,mvB (L2))] [],[],Wk.mkL [] rfl rfl rfl rfl rfl trivial ?_,rfl,rfl,ARets.no⟩
    exact⟨HeapOk.lentRow rfl rfl (fun i _ j _=>⟨rfl,rowF_imm mo_imm _ i j⟩),trivial⟩
theorem sym_H:∀f,SymC f
 |0=>fun L a m b C h1 h2 h3 h4 h5 h6=>absurd h6 (by omega)
 | f+1=>fun L a m b C h1 h2 h3 h4 h5 h6=>by
   by_cases c1:m-a=1
   ·exact sym_one f L a m b C h1 h2 h3 h4 h5 c1
   ·by_cases c2:b-m=1
    ·exact sym_two f L a m b C h1 h2 h3 h4 h5 c1 c2
    ·exact sym_gen f (sym_H f) L a m b C h1 h2 h3 h4 h5 h6 c1 c2
theorem ins_len(a b:Nat)(L:List (Int×Int)):(ins moZ mvLt a b L).length=L.length:=insK_len a L _
theorem ins_oks{a b:Nat}{L:List (Int×Int)}(h:Oks L)(ha:a<L.length)(hb:b≤L.length):Oks (ins moZ mvLt a b L):=insK_oks a L h _ (by omega)
theorem ins_none{a b:Nat}{L:List (Int×Int)}(h:b≤a+1):ins moZ mvLt a b L=L:=by unfold ins;rw[show b-(a+1)=0 by omega];rfl
theorem ins_oks'{a b:Nat}{L:List (Int×Int)}(h:Oks L)(hb:b≤L.length):Oks (ins moZ mvLt a b L):=by
 by_cases ha:a<L.length
 ·exact ins_oks h ha hb
 ·rw[ins_none (by omega)];exact h
theorem blk_out{n f a:Nat}{L:List (Int×Int)}(h:¬a+20≤n):blk moZ mvLt n f a L=ins moZ mvLt a n L:=by
 cases f with
 |zero=>rfl
 |succ f=>unfold blk;rw[if_neg h]
theorem mrgs_out{n f s:Nat}{L:List (Int×Int)}(h:¬s<n):mrgs moZ mvLt n f s L=L:=by
 cases f with
 |zero=>rfl
 |succ f=>unfold mrgs;rw[if_neg h]
set_option maxRecDepth 100000 in
theorem stable_H(L:List (Int×Int))(C:Nat→CV)(hp0:0<L.length)(hn:L.length≤1000)(hL:Oks L):
 HCalls Try.prog 96 [.c (.ow 1000),.c (iC L.length),.c (cmpC C)] [(1000,mvB L)] (.tu []) [(1000,mvB (stable moZ mvLt L))]:=by
 refine hcalls_at Try.func96 rfl rfl Try.ntmps96 rfl rfl (fun p hp=>by cases hp with|head=>exact fun k j _ _=>rowF_imm mo_imm _ k j|tail _ h=>cases h) ?_
 obtain⟨n,hnl⟩:∃n,L.length=n:=⟨_,rfl⟩
 obtain⟨B,hB⟩:∃B,blk moZ mvLt n n 0 L=B:=⟨_,rfl⟩
 obtain⟨R,hR⟩:∃R,mrgs moZ mvLt n n 20 B=R:=⟨_,rfl⟩
 rw[show stable moZ mvLt L=R by unfold stable;rw[hnl,hB,hR]]
 rw[hnl]at hp0 hn⊢
 refine vB [0,1] ?_
 refine AWp.round (fun t:Nat×Nat×List (Int×Int)=>mkL 63 1 [(0,.c (.ow 1000)),(1,.c (iC n)),(2,.c (cmpC C)),(6,.c (iC 20)),(7,.c (iC t.2.1)),(8,.c (iC ((t.2.1:Int)+20)))] [(1000,mvB t.2.2)] [])
  (fun t=>t.2.1≤n∧n-t.2.1≤t.1∧t.2.2.length=n∧Oks t.2.2∧blk moZ mvLt n t.1 t.2.1 t.2.2=B) (fun t=>t.1) (n,0,L) ⟨Nat.zero_le _,Nat.le_refl _,hnl,hL,hB⟩ ?_ (fun t ht=> ?_)
 ·refine Wk.mkL [] rfl rfl rfl rfl rfl ?_ ?_
  ·exact allF
  ·exact⟨HeapOk.lentRow rfl rfl (fun i _ j _=>⟨rfl,rowF_imm mo_imm _ i j⟩),trivial⟩
 ·obtain ⟨f,a,M⟩:=t
  obtain⟨q1,q2,q3,q4,q5⟩:=ht
  dsimp only at q1 q2 q3 q4 q5
  dsimp only
  have hp:0<M.length:=by omega
  by_cases hab:a+20≤n
  ·obtain⟨g,rfl⟩:∃g,f=g+1:=⟨f-1,by omega⟩
   have hI:=insertion_H M a (a+20) (fun i=>lendB [1000] (C i)) (by omega) (by omega) (by omega) q4
   rw[show(((a+20:Nat):Int))=(a:Int)+20 by omega]at hI
   have q5':blk moZ mvLt n g (a+20) (ins moZ mvLt a (a+20) M)=B:=by
    rw[←q5]
    show _=if a+20≤n then blk moZ mvLt n g (a+20) (ins moZ mvLt a (a+20) M)else ins moZ mvLt a n M
    rw[if_pos hab]
   repeat (first
    |refine vB [2,4,5] ?_
    | (refine rG 3 ?_
       (iterate 4 refine vA ?_)
       refine AList.callH [1000] [mvB M] [mvB (ins moZ mvLt a (a+20) M)] rfl rfl rfl Try.func99 rfl (by kernel_rfl) (LendOk.row rfl hp (fun i _ j _=>⟨rfl,rowF_imm mo_imm _ i j⟩) trivial) rfl (LendImm.row (fun i _ j _=>rowF_imm mo_imm _ i j) trivial) (hI) ?_
       refine aB ?_))
   refine⟨(g,a+20,ins moZ mvLt a (a+20) M),⟨by dsimp only;omega,by dsimp only;omega,by dsimp only;rw[ins_len];exact q3,ins_oks' q4 (by omega),q5'⟩,Wk.mkL [] rfl rfl rfl rfl rfl ?_ ?_,by dsimp only;omega⟩
   ·exact allF
   ·exact⟨HeapOk.lentRow rfl rfl (fun i _ j _=>⟨rfl,rowF_imm mo_imm _ i j⟩),trivial⟩
  ·rw [blk_out hab]at q5
   have hI:=insertion_H M a n (fun i=>lendB [1000] (C i)) (by omega) q1 (by omega) q4
   rw[q5]at hI
   have hBl:B.length=n:=by rw[←q5,ins_len];exact q3
   have hBo:Oks B:=by rw[←q5];exact ins_oks' q4 (by omega)
   repeat (first
    |refine vB [2] ?_
    | (refine rG 6 ?_
       (iterate 4 refine vA ?_)
       refine AList.callH [1000] [mvB M] [mvB B] rfl rfl rfl Try.func99 rfl (by kernel_rfl) (LendOk.row rfl hp (fun i _ j _=>⟨rfl,rowF_imm mo_imm _ i j⟩) trivial) rfl (LendImm.row (fun i _ j _=>rowF_imm mo_imm _ i j) trivial) (hI) ?_
       refine aB ?_))
   refine AWp.round (fun t:Nat×Nat×List (Int×Int)=>mkL 63 1 [(0,.c (.ow 1000)),(1,.c (iC n)),(2,.c (cmpC C)),(6,.c (iC t.2.1))] [(1000,mvB t.2.2)] [])
    (fun t=>20≤t.2.1∧t.2.1≤3000∧n-t.2.1≤t.1∧t.2.2.length=n∧Oks t.2.2∧mrgs moZ mvLt n t.1 t.2.1 t.2.2=R) (fun t=>t.1) (n,20,B) ⟨Nat.le_refl _,by dsimp only;omega,by dsimp only;omega,hBl,hBo,hR⟩ ?_ (fun t ht=> ?_)
   ·refine Wk.mkL [] rfl rfl rfl rfl rfl ?_ ?_
    ·exact allF
    ·exact⟨HeapOk.lentRow rfl rfl (fun i _ j _=>⟨rfl,rowF_imm mo_imm _ i j⟩),trivial⟩
   ·obtain ⟨f,s,K⟩:=t
    obtain⟨p1,p2,p3,p4,p5,p6⟩:=ht
    dsimp only at p1 p2 p3 p4 p5 p6
    dsimp only
    by_cases hs:s<n
    ·obtain ⟨g,rfl⟩:∃g,f=g+1:=⟨f-1,by omega⟩
     obtain⟨K1,hK1⟩:∃K1,mrg moZ mvLt n s n 0 K=K1:=⟨_,rfl⟩
     have p6':mrgs moZ mvLt n g (2*s) K1=R:=by
      rw[←p6,←hK1]
      show _=if s<n then mrgs moZ mvLt n g (2*s) (mrg moZ mvLt n s n 0 K)else K
      rw[if_pos hs]
     refine vB [7,8] ?_
     refine AWp.round (fun t:Nat×Nat×List (Int×Int)=>mkL 63 1 [(0,.c (.ow 1000)),(1,.c (iC n)),(2,.c (cmpC C)),(6,.c (iC s)),(7,.c (iC t.2.1)),(8,.c (iC ((t.2.1:Int)+2*s)))] [(1000,mvB t.2.2)] [])
      (fun t=>t.2.1≤n∧n-t.2.1≤t.1∧t.2.2.length=n∧Oks t.2.2∧mrg moZ mvLt n s t.1 t.2.1 t.2.2=K1) (fun t=>t.1) (n,0,K) ⟨Nat.zero_le _,Nat.le_refl _,p4,p5,hK1⟩ ?_ (fun t ht=> ?_)
     ·refine Wk.mkL [] rfl rfl rfl rfl rfl ?_ ?_
      ·exact allF
      ·exact⟨HeapOk.lentRow rfl rfl (fun i _ j _=>⟨rfl,rowF_imm mo_imm _ i j⟩),trivial⟩
     ·obtain⟨f,a,M⟩:=t
      obtain⟨r1,r2,r3,r4,r5⟩:=ht
      dsimp only at r1 r2 r3 r4 r5
      dsimp only
      have hp:0<M.length:=by omega
      by_cases hab:a+2*s≤n
      ·obtain⟨g',rfl⟩:∃g,f=g+1:=⟨f-1,by omega⟩
       have hI:=sym_H (2*s) M a (a+s) (a+2*s) (fun i=>lendB [1000] (C i)) (by omega) (by omega) (by omega) (by omega) r4 (by omega)
       rw[show(((a+s:Nat):Int))=(a:Int)+s by omega,show(((a+2*s:Nat):Int))=(a:Int)+2*s by omega]at hI
       have r5':mrg moZ mvLt n s g' (a+2*s) (sym moZ mvLt (2*s) a (a+s) (a+2*s) M)=K1:=by
        rw[←r5]
        show _=if a+2*s≤n then mrg moZ mvLt n s g' (a+2*s) (sym moZ mvLt (2*s) a (a+s) (a+2*s) M)else if a+s<n then sym moZ mvLt (n-a) a (a+s) n M else M
        rw[if_pos hab]
       repeat (first
        |refine vB [9,11,12] ?_
        | (refine rG 10 ?_
           (iterate 7 refine vA ?_)
           refine AList.callH [1000] [mvB M] [mvB (sym moZ mvLt (2*s) a (a+s) (a+2*s) M)] rfl rfl rfl Try.func100 rfl (by kernel_rfl) (LendOk.row rfl hp (fun i _ j _=>⟨rfl,rowF_imm mo_imm _ i j⟩) trivial) rfl (LendImm.row (fun i _ j _=>rowF_imm mo_imm _ i j) trivial) (hI) ?_
           refine aB ?_))
       refine⟨(g',a+2*s,sym moZ mvLt (2*s) a (a+s) (a+2*s) M),⟨hab,by dsimp only;omega,by dsimp only;rw[sym_len];exact r3,sym_oks _ _ _ _ _ (by omega) (by omega) (by omega) r4,r5'⟩,Wk.mkL [] rfl rfl rfl rfl rfl ?_ ?_,by dsimp only;omega⟩
       ·exact allF
       ·exact⟨HeapOk.lentRow rfl rfl (fun i _ j _=>⟨rfl,rowF_imm mo_imm _ i j⟩),trivial⟩
      ·by_cases hm:a+s<n
       ·obtain⟨g',rfl⟩:∃g,f=g+1:=⟨f-1,by omega⟩
        have hI:=sym_H (n-a) M a (a+s) n (fun i=>lendB [1000] (C i)) (by omega) hm (by omega) (by omega) r4 (by omega)
        rw[show(((a+s:Nat):Int))=(a:Int)+s by omega]at hI
        have r5':sym moZ mvLt (n-a) a (a+s) n M=K1:=by
         rw[←r5]
         show _=if a+2*s≤n then mrg moZ mvLt n s g' (a+2*s) (sym moZ mvLt (2*s) a (a+s) (a+2*s) M)else if a+s<n then sym moZ mvLt (n-a) a (a+s) n M else M
         rw[if_neg hab,if_pos hm]
        rw[r5']at hI
        have hKl:K1.length=n:=by rw[←r5',sym_len];exact r3
        have hKo:Oks K1:=by rw[←r5'];exact sym_oks _ _ _ _ _ (by omega) hm (by omega) r4
        repeat (first
         |refine vB [9,13,14,16] ?_
         | (refine rG 15 ?_
            (iterate 5 refine vA ?_)
            refine AList.callH [1000] [mvB M] [mvB K1] rfl rfl rfl Try.func100 rfl (by kernel_rfl) (LendOk.row rfl hp (fun i _ j _=>⟨rfl,rowF_imm mo_imm _ i j⟩) trivial) rfl (LendImm.row (fun i _ j _=>rowF_imm mo_imm _ i j) trivial) (hI) ?_
            refine aB ?_))
        refine⟨(g,2*s,K1),⟨by dsimp only;omega,by dsimp only;omega,by dsimp only;omega,hKl,hKo,p6'⟩,Wk.mkL [] rfl rfl rfl rfl rfl ?_ ?_,by dsimp only;omega⟩
        ·exact allF
        ·exact⟨HeapOk.lentRow rfl rfl (fun i _ j _=>⟨rfl,rowF_imm mo_imm _ i j⟩),trivial⟩
       ·have r5':M=K1:=by
         rw[←r5]
         cases f with
         |zero=>rfl
         | succ g'=>
           show _=if a+2*s≤n then mrg moZ mvLt n s g' (a+2*s) (sym moZ mvLt (2*s) a (a+s) (a+2*s) M)else if a+s<n then sym moZ mvLt (n-a) a (a+s) n M else M
           rw[if_neg hab,if_neg hm]
        subst r5'
        refine vB [9,13,14,16] ?_
        refine⟨(g,2*s,M),⟨by dsimp only;omega,by dsimp only;omega,by dsimp only;omega,r3,r4,p6'⟩,Wk.mkL [] rfl rfl rfl rfl rfl ?_ ?_,by dsimp only;omega⟩
        ·exact allF
        ·exact⟨HeapOk.lentRow rfl rfl (fun i _ j _=>⟨rfl,rowF_imm mo_imm _ i j⟩),trivial⟩
    ·rw[mrgs_out hs]at p6
     subst p6
     refine vB [7] ?_
     refine⟨mkL 63 1 [] [(1000,mvB K)] [],[],Wk.mkL [] rfl rfl rfl rfl rfl trivial ?_,rfl,rfl,ARets.no⟩
     exact⟨HeapOk.lentRow rfl rfl (fun i _ j _=>⟨rfl,rowF_imm mo_imm _ i j⟩),trivial⟩
set_option maxRecDepth 100000 in
theorem SortStable_H(L:List (Int×Int))(C:Nat→CV)(hp0:0<L.length)(hn:L.length≤1000)(hL:Oks L):
 HCalls Try.prog 80 [.c (.ow 1000),.c (cmpC C)] [(1000,mvB L)] (.tu []) [(1000,mvB (stable moZ mvLt L))]:=by
 refine hcalls_at Try.func80 rfl rfl Try.ntmps80 rfl rfl (fun p hp=>by cases hp with|head=>exact fun k j _ _=>rowF_imm mo_imm _ k j|tail _ h=>cases h) ?_
 have hS:=stable_H L (fun i=>lendB [1000] (C i)) hp0 hn hL
 repeat (first
  |refine vB [] ?_
  | (refine rG 0 ?_
     (iterate 4 refine vA ?_)
     refine AList.callH [1000] [mvB L] [mvB (stable moZ mvLt L)] rfl rfl rfl Try.func96 rfl (by kernel_rfl) (LendOk.row rfl hp0 (fun i _ j _=>⟨rfl,rowF_imm mo_imm _ i j⟩) trivial) rfl (LendImm.row (fun i _ j _=>rowF_imm mo_imm _ i j) trivial) (hS) ?_
     refine aB ?_))
 refine⟨mkL 9 1 [] [(1000,mvB (stable moZ mvLt L))] [],[],Wk.mkL [] rfl rfl rfl rfl rfl trivial ?_,rfl,rfl,ARets.no⟩
 exact⟨HeapOk.lentRow rfl rfl (fun i _ j _=>⟨rfl,rowF_imm mo_imm _ i j⟩),trivial⟩
end Go.Proofs.Ytpefnljgalpllaa
end
