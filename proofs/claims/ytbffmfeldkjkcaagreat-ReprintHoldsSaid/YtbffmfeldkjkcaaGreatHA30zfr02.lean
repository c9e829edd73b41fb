/- Parts of the proof: Sum, A23a, A23n, A24i, A24j, A24k, A24s. -/
import Derived.Test.YtbffmfeldkjkcaaGreatHA30zfr01
import Derived.Test.YtbffmfeldkjkcaaGreatG18
set_option linter.unusedSimpArgs false
set_option linter.unusedVariables false
set_option maxHeartbeats 0
set_option maxRecDepth 100000
section
namespace Go.Plain
theorem zNW(f:Nat→Nat→Int)(m:Nat):∀n:Nat,zAi (fun i=>zAi (fun j=>f i j) m) n=zAi (fun j=>zAi (fun i=>f i j) n) m
 | 0=>by
   simp only[zAi]
   have h0:∀m:Nat,zAi (fun _=>0) m=0:=fun m=>by rw[zC6];omega
   exact(h0 m).symm
 |n+1=>by simp only[zAi,zNW f m n,zHv]
end Go.Plain
end
section
namespace Go.Proofs.YtbffmfeldkjkcaaGreat
open Go.RowKit Go.Flow Go.AV Go.Plain
theorem zHl(n m:Int):ACalls Tryz.prog 124 [.c (iC n),.c (iC m)] (.c (iC (zC1 n m))):=by
 refine zJ Tryz.func124 rfl rfl Tryz.ntmps124 rfl ?_;refine vB [0,1] ?_
 refine⟨zC 9 [(4,.c (iC (zC1 n m)))] [] [],[],Wk.mk [] rfl rfl rfl ?_ trivial,rfl,rfl,aR1⟩
 exact zB
theorem zRO(x:Bg):ACalls Tryz.prog 120 [.ag (bgC x)] (.ag (bgC (zAk x))):=by
 refine zJ Tryz.func120 rfl rfl Tryz.ntmps120 rfl ?_
 repeat (first
  |refine vB [0] ?_
  |(refine AWp.draw (id:=1) zK ?_;refine xE2 ?_;refine aH rfl rfl rfl rfl Tryz.func124 rfl xC (zHl _ _) ?_;refine xE2 ?_;refine aH rfl rfl rfl rfl Tryz.func124 rfl xC (zHl _ _) ?_;refine xE2 ?_;refine aH rfl rfl rfl rfl Tryz.func124 rfl xC (zHl _ _) ?_;refine xE2 ?_;refine aH rfl rfl rfl rfl Tryz.func124 rfl xC (zHl _ _) ?_;refine xE2 ?_;refine aB ⟨by kernel_rfl,?_⟩))
 refine⟨zC 16 [(2,.c (.pt 2 4 0 0))] [(2,⟨false,1,4,61,lF (bgC (zAk x))⟩)] [2],[(2,⟨false,1,4,61,lF (bgC (zAk x))⟩)],Wk.mk [(2,some 2)] rfl rfl rfl ?_ ?_,rfl,rfl,ARets.one (x:=.ag _) (ARes.box zA rfl rfl rfl rfl rfl rfl rfl)⟩
 ·exact zB
 ·exact zAf
theorem zO9(m:Nat)(hm:m≤4):ACalls Tryz.prog 119 [.c (iC m)] (.c (.ls (shL m).length 2 (zS mvC mvZ (shL m)))):=by
 refine zJ Tryz.func119 rfl rfl Tryz.ntmps119 rfl ?_;refine vB [0,1,2] ?_;refine AWp.round (fun t:Nat×List (Int×Int)=>zC 45 [(0,.c (iC m)),(3,.c (.ow 20)),(4,.c (iC t.1))] [(20,⟨true,t.2.length,2,159,zS mvC mvZ t.2⟩)] [20])
  (fun t=>t.1≤2*m+1∧t.2=shS m t.1∧t.2.length≤81*t.1) (fun t=>2*m+1-t.1) (0,[]) ⟨Nat.zero_le _,rfl,Nat.zero_le _⟩ ?_ (fun t ht=> ?_)
 ·refine Wk.mk [(20,none)] rfl rfl rfl ?_ ?_
  ·exact zB
  ·exact zAf
 ·obtain ⟨s,L⟩:=t
  obtain⟨hs,hL,hl⟩:=ht
  dsimp only at hs hL hl;dsimp only;by_cases hlts:s<2*m+1
  ·refine vB [3,5] ?_
   refine AWp.round (fun t:Nat×List (Int×Int)=>zC 45 [(0,.c (iC m)),(3,.c (.ow 20)),(4,.c (iC s)),(5,.c (iC ((t.1:Int)-m)))] [(20,⟨true,t.2.length,2,159,zS mvC mvZ t.2⟩)] [20])
    (fun t=>t.1≤2*m+1∧t.2=shS m s++shM m s t.1∧t.2.length≤81*s+9*t.1) (fun t=>2*m+1-t.1) (0,L) ⟨Nat.zero_le _,by rw[hL];exact(List.append_nil _).symm,by dsimp only;omega⟩ ?_ (fun t ht=> ?_)
   ·refine Wk.mk [(20,some 20)] rfl rfl rfl ?_ ?_
    ·exact zB
    ·exact zAf
   ·obtain ⟨i,L2⟩:=t
    obtain⟨hi,hL2,hl2⟩:=ht
    dsimp only at hi hL2 hl2;dsimp only;by_cases hlti:i<2*m+1
    ·refine vB [6,8] ?_
     refine AWp.round (fun t:Nat×List (Int×Int)=>zC 45 [(0,.c (iC m)),(3,.c (.ow 20)),(4,.c (iC s)),(5,.c (iC ((i:Int)-m))),(6,.c (iC ((t.1:Int)-m)))] [(20,⟨true,t.2.length,2,159,zS mvC mvZ t.2⟩)] [20])
      (fun t=>t.1≤2*m+1∧t.2=(shS m s++shM m s i)++shJ m s i t.1∧t.2.length≤81*s+9*i+t.1) (fun t=>2*m+1-t.1) (0,L2) ⟨Nat.zero_le _,by rw[hL2];exact(List.append_nil _).symm,by dsimp only;omega⟩ ?_ (fun t ht=> ?_)
     ·refine Wk.mk [(20,some 20)] rfl rfl rfl ?_ ?_
      ·exact zB
      ·exact zAf
     ·obtain⟨j,L3⟩:=t
      obtain⟨hj,hL3,hl3⟩:=ht
      dsimp only at hj hL3 hl3;dsimp only;by_cases hltj:j<2*m+1
      ·have hsu:shJ m s i (j+1)=shJ m s i j++if shB m s i j then [((j:Int)-m,(i:Int)-m)]else []:=zGU _ _
       by_cases hb:max ((j:Int)-m) (-((j:Int)-m))+max ((i:Int)-m) (-((i:Int)-m))=(s:Int)
       ·rw [show shB m s i j=true from decide_eq_true hb,if_pos rfl]at hsu
        have hlen:(L3++ [((j:Int)-m,(i:Int)-m)]).length=L3.length+1:=by simp
        repeat (first
         |refine vB [9,10,11] ?_
         | (refine rG 12 ?_
            refine xE5 ?_;refine zBb zA rfl rfl rfl rfl rfl rfl rfl rfl rfl rfl oM oM ?_;refine vA ?_;refine aB ?_))
        refine⟨(j+1,L3++ [((j:Int)-m,(i:Int)-m)]),⟨by dsimp only;omega,by rw[hL3,hsu,List.append_assoc],by rw[hlen];omega⟩,Wk.mk [(20,some 43)] rfl rfl rfl ?_ ?_,by dsimp only;omega⟩
        ·exact zB
        ·exact⟨HeapOk.row rfl rfl hlen (zBh L3 ((j:Int)-m,(i:Int)-m) zMU rfl),trivial⟩
       ·rw[show shB m s i j=false from decide_eq_false hb,if_neg (by decide),List.append_nil]at hsu
        refine vB [9,10,11] ?_
        refine⟨(j+1,L3),⟨by dsimp only;omega,by rw[hL3,hsu],by dsimp only;omega⟩,Wk.mk [(20,some 20)] rfl rfl rfl ?_ ?_,by dsimp only;omega⟩
        ·exact zB
        ·exact zAf
      ·obtain rfl:j=2*m+1:=by omega
       have hsu:shM m s (i+1)=shM m s i++shJ m s i (2*m+1):=zGU _ _;refine vB [7,9] ?_
       refine⟨(i+1,L3),⟨by dsimp only;omega,by rw[hL3,hsu,List.append_assoc],by dsimp only;omega⟩,Wk.mk [(20,some 20)] rfl rfl rfl ?_ ?_,by dsimp only;omega⟩
       ·exact zB
       ·exact zAf
    ·obtain rfl:i=2*m+1:=by omega
     have hsu:shS m (s+1)=shS m s++shM m s (2*m+1):=zGU _ _;refine vB [4,6] ?_
     refine⟨(s+1,L2),⟨by dsimp only;omega,by rw[hL2,hsu],by dsimp only;omega⟩,Wk.mk [(20,some 20)] rfl rfl rfl ?_ ?_,by dsimp only;omega⟩
     ·exact zB
     ·exact zAf
  ·obtain rfl:s=2*m+1:=by omega
   subst hL;refine vB [3,13] ?_
   refine⟨zC 45 [(2,.c (.ls (shL m).length 2 (zS mvC mvZ (shL m))))] [] [],[],Wk.mk [] rfl rfl rfl ?_ trivial,rfl,rfl,aR1⟩
   unfold shL;exact zB
end Go.Proofs.YtbffmfeldkjkcaaGreat
end
section
namespace Go.Proofs.YtbffmfeldkjkcaaGreat
open Go.RowKit Go.Flow Go.AV Go.Plain Go.AV.Srt
theorem zE0(x:Bg):ACalls Tryz.prog 114 [.ag (bgC x)] (.ag (bgC (zAk x))):=by
 have h:=zRO x;refine zJ Tryz.func114 rfl rfl Tryz.ntmps114 rfl ?_
 repeat (first
  |refine vB [0] ?_
  | (refine rG 1 ?_
     refine vA ?_;refine xB Tryz.func120 h ?_;refine vA ?_;refine aB ?_))
 refine⟨zC 5 [(2,.c (.pt 2 4 0 0))] [(2,⟨false,1,4,61,lF (bgC (zAk x))⟩)] [2],[(2,⟨false,1,4,61,lF (bgC (zAk x))⟩)],Wk.mk [(2,some 2)] rfl rfl rfl ?_ ?_,rfl,rfl,ARets.one (x:=.ag _) (ARes.box zA rfl rfl rfl rfl rfl rfl rfl)⟩
 ·exact zB
 ·exact zAf
theorem zRD(x y:Bg):ACalls Tryz.prog 112 [.ag (bgC x),.ag (bgC y)] (.c (.ls (shL (shN x y)).length 2 (zS mvC mvZ (shL (shN x y))))):=by
 obtain⟨e,hm⟩:=zE1 x y
 have h1:=zE0 x;have h2:=zE0 y;have h3:=zO9 (shN x y) hm;rw[e]at h3;have b1:=zB2 x;have b2:=zB2 y;generalize shN x y=m at *;refine zJ Tryz.func112 rfl rfl Tryz.ntmps112 rfl ?_
 repeat (first
  |refine vB [0] ?_
  |(refine AWp.draw (id:=1) zK ?_;refine vA ?_;(first|refine xB Tryz.func114 h1 ?_|refine xB Tryz.func114 h2 ?_);refine zEG zA rfl rfl rfl Tryz.underlying61 rfl rfl rfl rfl ?_;refine vA ?_;(first|refine xB Tryz.func114 h1 ?_|refine xB Tryz.func114 h2 ?_);refine zEG zA rfl rfl rfl Tryz.underlying61 rfl rfl rfl rfl ?_;refine vA ?_;refine xB Tryz.func119 h3 ?_;refine vA ?_;refine aB ⟨by kernel_rfl,?_⟩))
 refine⟨zC 13 [(4,.c (.ls (shL m).length 2 (zS mvC mvZ (shL m))))] [] [],[],Wk.mk [] rfl rfl rfl ?_ trivial,rfl,rfl,aR1⟩
 exact zB
end Go.Proofs.YtbffmfeldkjkcaaGreat
end
section
namespace Go.Proofs.YtbffmfeldkjkcaaGreat
open Go.RowKit Go.Flow Go.AV Go.Plain
theorem zOG(a b:Bp):ACalls Tryz.prog 97 [.ag (bpC a),.ag (bpC b)] (.c (bC (decide (zBv a b)))):=by
 have h1:=zEV a.W a.H a.n a.d;have h2:=zEV b.W b.H b.n b.d;by_cases c1:chk a.W a.H a.n=0
 ·by_cases c2:chk b.W b.H b.n=0
  ·by_cases c3:a.W=b.W
   ·by_cases c4:a.H=b.H
    ·rw [show decide (zBv a b)=true from decide_eq_true ⟨c1,c2,c3,c4⟩]
     refine zJ Tryz.func97 rfl rfl Tryz.ntmps97 rfl ?_
     repeat (first
      |refine vB [0] ?_
      | (refine rG 1 ?_
         refine vA ?_;refine xB Tryz.func61 h1 ?_;refine xE3 ?_;refine xB Tryz.func61 h2 ?_
         (iterate 17 refine vA ?_);refine aB ?_))
     refine⟨zC 27 [(4,.c (bC true))] [] [],[],Wk.mk [] rfl rfl rfl ?_ trivial,rfl,rfl,aR1⟩
     exact zB
    ·rw [show decide (zBv a b)=false from decide_eq_false fun h=>c4 h.2.2.2]
     refine zJ Tryz.func97 rfl rfl Tryz.ntmps97 rfl ?_
     repeat (first
      |refine vB [0] ?_
      | (refine rG 1 ?_
         refine vA ?_;refine xB Tryz.func61 h1 ?_;refine xE3 ?_;refine xB Tryz.func61 h2 ?_
         (iterate 17 refine vA ?_);refine aB ?_))
     refine⟨zC 27 [(4,.c (bC false))] [] [],[],Wk.mk [] rfl rfl rfl ?_ trivial,rfl,rfl,aR1⟩
     exact zB
   ·rw [show decide (zBv a b)=false from decide_eq_false fun h=>c3 h.2.2.1]
    refine zJ Tryz.func97 rfl rfl Tryz.ntmps97 rfl ?_
    repeat (first
     |refine vB [0] ?_
     | (refine rG 1 ?_
        refine vA ?_;refine xB Tryz.func61 h1 ?_;refine xE3 ?_;refine xB Tryz.func61 h2 ?_
        (iterate 17 refine vA ?_);refine aB ?_))
    refine⟨zC 27 [(4,.c (bC false))] [] [],[],Wk.mk [] rfl rfl rfl ?_ trivial,rfl,rfl,aR1⟩
    exact zB
  ·rw [show decide (zBv a b)=false from decide_eq_false fun h=>c2 h.2.1]
   refine zJ Tryz.func97 rfl rfl Tryz.ntmps97 rfl ?_
   repeat (first
    |refine vB [0] ?_
    | (refine rG 1 ?_
       refine vA ?_;refine xB Tryz.func61 h1 ?_;refine xE3 ?_;refine xB Tryz.func61 h2 ?_
       (iterate 17 refine vA ?_);refine aB ?_))
   refine⟨zC 27 [(4,.c (bC false))] [] [],[],Wk.mk [] rfl rfl rfl ?_ trivial,rfl,rfl,aR1⟩
   exact zB
 ·rw [show decide (zBv a b)=false from decide_eq_false fun h=>c1 h.1]
  refine zJ Tryz.func97 rfl rfl Tryz.ntmps97 rfl ?_
  repeat (first
   |refine vB [0] ?_
   | (refine rG 1 ?_
      refine vA ?_;refine xB Tryz.func61 h1 ?_
      (iterate 21 refine vA ?_);refine aB ?_))
  refine⟨zC 27 [(4,.c (bC false))] [] [],[],Wk.mk [] rfl rfl rfl ?_ trivial,rfl,rfl,aR1⟩
  exact zB
theorem zKN (a b:Bp)(dx dy fr ti:Int)(ha:chk a.W a.H a.n=0)(hb:chk b.W b.H b.n=0)(hx:-1000≤dx∧dx≤1000)(hy:-1000≤dy∧dy≤1000):
 ACalls Tryz.prog 121 [.ag (bpC a),.ag (bpC b),.c (iC dx),.c (iC dy),.c (iC fr),.c (iC ti)] (.c (iC (zB5 a b dx dy fr ti))):=by
 have hC:=zEV a.W a.H a.n a.d;rw[ha]at hC
 obtain⟨hw0,hw1,hh0,hh1,hn⟩:=okB ha
 obtain⟨Wn,hWn⟩:=Int.eq_ofNat_of_zero_le hw0
 obtain⟨Hn,hHn⟩:=Int.eq_ofNat_of_zero_le hh0
 have hon:zB5 a b dx dy fr ti=zAi (fun j=>cnt (onB a b dx dy fr ti j) Wn) Hn:=by unfold zB5;rw[hWn,hHn];rfl
 rw[hon];have hsb:∀m,m≤Hn→0≤zAi (fun j=>cnt (onB a b dx dy fr ti j) Wn) m∧zAi (fun j=>cnt (onB a b dx dy fr ti j) Wn) m≤96*m:=fun m hm=>by
  refine⟨zDE fun k _=>Go.Plain.cnt_nonneg _ _,?_⟩
  induction m with
  |zero=>exact Int.le_refl _
  | succ m ih=>
    have h1:=ih xD;have h2:=zCT (onB a b dx dy fr ti m) Wn;show zAi _ m+cnt _ Wn≤_
    omega
 rw[show bpC a=zAz Wn Hn a.n a.d by show zAz a.W a.H a.n a.d=_;rw[hWn,hHn]]
 have hG:∀i j:Int,ACalls Tryz.prog 73 [.ag (zAz Wn Hn a.n a.d),.c (iC i),.c (iC j)] (.c (bC (zAu a.W a.H a.d i j))):=fun i j=>by
  have:=zGt a.W a.H a.n a.d i j ha;rw[hWn,hHn]at this⊢;exact this
 rw[show zAz a.W a.H a.n a.d=zAz Wn Hn a.n a.d by rw[hWn,hHn]]at hC;have hW:(Wn:Int)≤96:=by omega
 have hH:(Hn:Int)≤96:=by omega
 refine zJ Tryz.func121 rfl rfl Tryz.ntmps121 rfl ?_;refine vB [0,1,2] ?_;refine AWp.round (fun j:Nat=>zC 61 [(2,.c (iC dx)),(3,.c (iC dy)),(4,.c (iC fr)),(5,.c (iC ti)),(6,.c (.pt 6 3 0 0)),(7,.c (.pt 7 3 0 0)),(13,.c (iC (zAi (fun j=>cnt (onB a b dx dy fr ti j) Wn) j))),(14,.c (iC j))] [(6,⟨false,1,3,58,lF (zAz Wn Hn a.n a.d)⟩),(7,⟨false,1,3,58,lF (bpC b)⟩)] [6,7])
  (fun j=>j≤Hn) (fun j=>Hn-j) 0 (Nat.zero_le _) ?_ (fun j hj=> ?_)
 ·refine Wk.mk [(6,some 6),(7,some 7)] rfl rfl rfl ?_ ?_
  ·exact zB
  ·exact zAf
 ·by_cases hjl :j<Hn
  ·obtain ⟨s, hs⟩:∃s,zAi (fun j=>cnt (onB a b dx dy fr ti j) Wn) j=s:=⟨_,rfl⟩
   have hs1:=hsb j hj;rw[hs]at hs1;have hsu:zAi (fun j=>cnt (onB a b dx dy fr ti j) Wn) (j+1)=s+cnt (onB a b dx dy fr ti j) Wn:=by rw[←hs];rfl
   rw[hs]
   repeat (first
    |refine vB [5] ?_
    | (refine rG 3 ?_
       refine vA ?_;refine xB Tryz.func61 hC ?_;refine xE7 ?_;refine aB ?_))
   refine AWp.round (fun i:Nat=>zC 61 [(2,.c (iC dx)),(3,.c (iC dy)),(4,.c (iC fr)),(5,.c (iC ti)),(6,.c (.pt 6 3 0 0)),(7,.c (.pt 7 3 0 0)),(13,.c (iC (s+cnt (onB a b dx dy fr ti j) i))),(14,.c (iC j)),(15,.c (iC i))] [(6,⟨false,1,3,58,lF (zAz Wn Hn a.n a.d)⟩),(7,⟨false,1,3,58,lF (bpC b)⟩)] [6,7])
    (fun i=>i≤Wn) (fun i=>Wn-i) 0 (Nat.zero_le _) ?_ (fun i hi=> ?_)
   ·refine Wk.mk [(6,some 6),(7,some 7)] rfl rfl rfl ?_ ?_
    ·rw[zGN]
     exact zB
    ·exact zAf
   ·obtain ⟨c, hc⟩:∃c,cnt (onB a b dx dy fr ti j) i=c:=⟨_,rfl⟩
    have hcb:0≤c∧c≤i:=by rw[←hc];exact⟨Go.Plain.cnt_nonneg _ _,zCT _ _⟩
    have hcs:cnt (onB a b dx dy fr ti j) (i+1)=c+if onB a b dx dy fr ti j i then 1 else 0:=by rw[←hc];exact zDv _ _
    rw[hc];have hGa:=hG i j;have hGb:=zGt b.W b.H b.n b.d ((i:Int)-dx) ((j:Int)-dy) hb;by_cases hil:i<Wn
    ·cases g1 :zAu a.W a.H a.d i j with
     | false=>
       rw[g1]at hGa;rw[show onB a b dx dy fr ti j i=false by unfold onB;rw[g1];rfl,if_neg (by decide)]at hcs
       repeat (first
        |refine vB [6,7] ?_
        | (refine rG 8 ?_
           refine xE3 ?_;refine xB Tryz.func73 hGa ?_
           (iterate 21 refine vA ?_);refine aB ?_))
       refine⟨i+1,hil,Wk.mk [(6,some 6),(7,some 7)] rfl rfl rfl ?_ ?_,by omega⟩
       ·rw[hcs]
        exact zB
       ·exact zAf
     | true =>
       rw[g1]at hGa;by_cases g2:(i:Int)<fr
       ·cases g4:zAu b.W b.H b.d ((i:Int)-dx) ((j:Int)-dy)with
        | false=>
          rw[g4]at hGb;rw[show onB a b dx dy fr ti j i=true by unfold onB;rw[g1,g4,decide_eq_true g2];rfl,if_pos rfl]at hcs
          repeat (first
           |refine vB [6,7,9] ?_
           | (refine rG 8 ?_
              refine xE3 ?_;refine xB Tryz.func73 hGa ?_
              (iterate 18 refine vA ?_);refine xB Tryz.func73 hGb ?_;refine xE2 ?_;refine aB ?_))
          refine⟨i+1,hil,Wk.mk [(6,some 6),(7,some 7)] rfl rfl rfl ?_ ?_,by omega⟩
          ·rw[hcs]
           exact zB
          ·exact zAf
        | true=>
          rw[g4]at hGb;rw[show onB a b dx dy fr ti j i=false by unfold onB;rw[g1,g4];simp,if_neg (by decide)]at hcs
          repeat (first
           |refine vB [6,7] ?_
           | (refine rG 8 ?_
              refine xE3 ?_;refine xB Tryz.func73 hGa ?_
              (iterate 18 refine vA ?_);refine xB Tryz.func73 hGb ?_;refine xE2 ?_;refine aB ?_))
          refine⟨i+1,hil,Wk.mk [(6,some 6),(7,some 7)] rfl rfl rfl ?_ ?_,by omega⟩
          ·rw[hcs]
           exact zB
          ·exact zAf
       ·by_cases g3:ti≤(i:Int)
        ·cases g4:zAu b.W b.H b.d ((i:Int)-dx) ((j:Int)-dy)with
         | false=>
           rw[g4]at hGb;rw[show onB a b dx dy fr ti j i=true by unfold onB;rw[g1,g4,decide_eq_true g3,Bool.or_true];rfl,if_pos rfl]at hcs
           repeat (first
            |refine vB [6,7,9] ?_
            | (refine rG 8 ?_
               refine xE3 ?_;refine xB Tryz.func73 hGa ?_
               (iterate 18 refine vA ?_);refine xB Tryz.func73 hGb ?_;refine xE2 ?_;refine aB ?_))
           refine⟨i+1,hil,Wk.mk [(6,some 6),(7,some 7)] rfl rfl rfl ?_ ?_,by omega⟩
           ·rw[hcs]
            exact zB
           ·exact zAf
         | true=>
           rw[g4]at hGb;rw[show onB a b dx dy fr ti j i=false by unfold onB;rw[g1,g4];simp,if_neg (by decide)]at hcs
           repeat (first
            |refine vB [6,7] ?_
            | (refine rG 8 ?_
               refine xE3 ?_;refine xB Tryz.func73 hGa ?_
               (iterate 18 refine vA ?_);refine xB Tryz.func73 hGb ?_;refine xE2 ?_;refine aB ?_))
           refine⟨i+1,hil,Wk.mk [(6,some 6),(7,some 7)] rfl rfl rfl ?_ ?_,by omega⟩
           ·rw[hcs]
            exact zB
           ·exact zAf
        ·rw [show onB a b dx dy fr ti j i=false by unfold onB;rw[g1,decide_eq_false g2,decide_eq_false g3];rfl,if_neg (by decide)]at hcs
         repeat (first
          |refine vB [6,7] ?_
          | (refine rG 8 ?_
             refine xE3 ?_;refine xB Tryz.func73 hGa ?_
             (iterate 21 refine vA ?_);refine aB ?_))
         refine⟨i+1,hil,Wk.mk [(6,some 6),(7,some 7)] rfl rfl rfl ?_ ?_,by omega⟩
         ·rw[hcs]
          exact zB
         ·exact zAf
    ·obtain rfl:i=Wn:=by omega
     refine vB [4,6] ?_
     refine⟨j+1,hjl,Wk.mk [(6,some 6),(7,some 7)] rfl rfl rfl ?_ ?_,by omega⟩
     ·rw[hsu,hc]
      exact zB
     ·exact zAf
  ·obtain rfl:j=Hn:=by omega
   repeat (first
    |refine vB [10] ?_
    | (refine rG 3 ?_
       refine vA ?_;refine xB Tryz.func61 hC ?_;refine xE7 ?_;refine aB ?_))
   refine⟨zC 61 [(12,.c (iC (zAi (fun j=>cnt (onB a b dx dy fr ti j) Wn) j)))] [] [],[],Wk.mk [] rfl rfl rfl ?_ trivial,rfl,rfl,aR1⟩
   exact zB
theorem zPX(c:Cl):(clC c).all zM=true:=rfl
theorem zSa(w:Int)(x y:Bg):stN w (zAk x) (zAk y)=stN w x y:=by unfold stN;rw[zI6,zI6]
theorem zM6(a b:Bp)(dx dy fr ti:Int)(ha:chk a.W a.H a.n=0):0≤zB5 a b dx dy fr ti∧zB5 a b dx dy fr ti≤9216:=by
 obtain⟨hw0,hw1,hh0,hh1,hn⟩:=okB ha
 unfold zB5;have:∀m:Nat,m≤96→0≤zAi (fun j=>cnt (onB a b dx dy fr ti j) a.W.toNat) m∧zAi (fun j=>cnt (onB a b dx dy fr ti j) a.W.toNat) m≤96*m:=fun m hm=>by
  refine⟨zDE fun k _=>Go.Plain.cnt_nonneg _ _,?_⟩
  induction m with
  |zero=>exact Int.le_refl _
  | succ m ih=>
    have h1:=ih xD;have h2:=zCT (onB a b dx dy fr ti m) a.W.toNat;show zAi _ m+cnt _ a.W.toNat≤_
    omega
 have:=this a.H.toNat xD
 omega
theorem zNf(w:Int)(x y:Bg)(h:0≤w∧w≤96):ACalls Tryz.prog 113 [.c (iC w),.ag (bgC x),.ag (bgC y)] (.c (iC (stN w x y))):=by
 have h1:=zE0 x;have h2:=zE0 y;have b1:=zB2 x;have b2:=zB2 y;refine zJ Tryz.func113 rfl rfl Tryz.ntmps113 rfl ?_
 repeat (first
  |refine vB [0] ?_
  |(refine AWp.draw (id:=1) zK ?_;refine xE3 ?_;(first|refine xB Tryz.func114 h1 ?_|refine xB Tryz.func114 h2 ?_);refine zEG zA rfl rfl rfl Tryz.underlying61 rfl rfl rfl rfl ?_;refine vA ?_;(first|refine xB Tryz.func114 h1 ?_|refine xB Tryz.func114 h2 ?_);refine zEG zA rfl rfl rfl Tryz.underlying61 rfl rfl rfl rfl ?_;refine xE3 ?_;refine aB ⟨by kernel_rfl,?_⟩))
 refine⟨zC 17 [(6,.c (iC (stN w x y)))] [] [],[],Wk.mk [] rfl rfl rfl ?_ trivial,rfl,rfl,aR1⟩
 exact zB
theorem zOy(a b:Bp)(c:Cl)(t:Int)(ha:chk a.W a.H a.n=0)(hb:chk b.W b.H b.n=0)(hx:-1000≤c.dx∧c.dx≤1000)(hy:-1000≤c.dy∧c.dy≤1000)(hc:-1000≤c.col∧c.col≤1000)(ht:0≤t∧t≤16):
 ACalls Tryz.prog 115 [.ag (bpC a),.ag (bpC b),.ag (clC c),.c (iC t)] (.tu [.c (iC (zB5 a b c.dx c.dy c.col (c.col+t))),.c (iC (zB5 b a (-c.dx) (-c.dy) (c.col-c.dx) (c.col-c.dx+t)))]):=by
 have h1:=zKN a b c.dx c.dy c.col (c.col+t) ha hb hx hy;have h2:=zKN b a (-c.dx) (-c.dy) (c.col-c.dx) (c.col-c.dx+t) hb ha xD xD;refine zJ Tryz.func115 rfl rfl Tryz.ntmps115 rfl ?_
 repeat (first
  |refine vB [0,3] ?_
  | (refine rG 1 ?_
     refine zHE ?_
     first|refine xB Tryz.func121 h1 ?_|refine xB Tryz.func121 h2 ?_
     refine vA ?_;refine aB ?_)
  | (refine rG 2 ?_
     (iterate 20 refine vA ?_)
     first|refine xB Tryz.func121 h1 ?_|refine xB Tryz.func121 h2 ?_
     refine vA ?_;refine aB ?_))
 refine⟨zC 48 [(8,.c (iC (zB5 a b c.dx c.dy c.col (c.col+t)))),(9,.c (iC (zB5 b a (-c.dx) (-c.dy) (c.col-c.dx) (c.col-c.dx+t))))] [] [],[],Wk.mk [] rfl rfl rfl ?_ trivial,rfl,rfl,ARets.two (x:=.c _) (y:=.c _) (ARes.tmp rfl rfl) (ARes.tmp rfl rfl)⟩
 exact zB
theorem zRC(a b:Bp)(x y:Bg)(c:Cl)(ha:chk a.W a.H a.n=0)(hb:chk b.W b.H b.n=0)(hx:-1000≤c.dx∧c.dx≤1000)(hy:-1000≤c.dy∧c.dy≤1000)(hc:-1000≤c.col∧c.col≤1000):
 ACalls Tryz.prog 99 [.ag (bpC a),.ag (bpC b),.ag (bgC x),.ag (bgC y),.ag (clC c)] (.c (iC (xsV a b x y c))):=by
 have h1:=zE0 x;have h2:=zE0 y;have b1:=zB2 x;have b2:=zB2 y;have hw:=okB ha;have hS:=zNf a.W (zAk x) (zAk y) ⟨hw.1,hw.2.1⟩;rw[zSa]at hS;have ht:=zE3 x y hw.1;have hA:=zOy a b c (stN a.W x y) ha hb hx hy hc xD;have e1:=zM6 a b c.dx c.dy c.col (c.col+stN a.W x y) ha;have e2:=zM6 b a (-c.dx) (-c.dy) (c.col-c.dx) (c.col-c.dx+stN a.W x y) hb;unfold xsV
 obtain⟨m,hm⟩:∃m,zB5 a b c.dx c.dy c.col (c.col+stN a.W x y)=m:=⟨_,rfl⟩
 obtain⟨n,hn⟩:∃n,zB5 b a (-c.dx) (-c.dy) (c.col-c.dx) (c.col-c.dx+stN a.W x y)=n:=⟨_,rfl⟩
 rw[hm,hn]at hA⊢;rw[hm]at e1;rw[hn]at e2;refine zJ Tryz.func99 rfl rfl Tryz.ntmps99 rfl ?_
 repeat (first
  |refine vB [0,4] ?_
  | (refine rG 1 ?_
     refine vA ?_
     first|refine xB Tryz.func114 h1 ?_|refine xB Tryz.func114 h2 ?_
     refine vA ?_;refine aB ?_)
  | (refine rG 2 ?_
     refine vA ?_
     first|refine xB Tryz.func114 h1 ?_|refine xB Tryz.func114 h2 ?_
     refine vA ?_;refine aB ?_)
  |(refine AWp.draw (id:=3) zK ?_;refine xE7 ?_;refine xB Tryz.func113 hS ?_;refine xB Tryz.func115 hA ?_;refine xE5 ?_;refine aB ⟨by kernel_rfl,?_⟩))
 refine⟨zC 44 [(10,.c (iC (ovN x y m n)))] [] [],[],Wk.mk [] rfl rfl rfl ?_ trivial,rfl,rfl,aR1⟩
 exact zB
theorem zPg(m:Nat)(d:Int×Int)(k:Nat):alI m d (k+1)=alI m d k++ [⟨d.1,d.2,(k:Int)-4⟩]:=by
 unfold alI;rw[List.range_succ,List.map_append]
 rfl
theorem zPh(w:Int)(x y:Bg)(L:List (Int×Int))(k:Nat)(hk:k<L.length):alK w x y (L.take (k+1))=alK w x y (L.take k)++alI 0 (L.getD k mvZ) (alM w x y):=by
 unfold alK;rw[List.take_add_one,List.flatMap_append,List.getElem?_eq_getElem hk,List.getD_eq_getElem?_getD,List.getElem?_eq_getElem hk]
 simp
theorem zOx(w:Int)(x y:Bg)(hw:0≤w∧w≤96):ACalls Tryz.prog 98 [.c (iC w),.ag (bgC x),.ag (bgC y)] (.c (.ls (alL w x y).length 3 (zS clC clZ (alL w x y)))):=by
 have hSh:=zRD x y;have hSt:=zNf w x y hw;have ht:=zE3 x y hw.1
 obtain⟨-,hm4⟩:=zE1 x y
 have hM:((alM w x y:Nat):Int)=w+9-stN w x y:=by unfold alM;omega
 have hbd:∀k,k<(shL (shN x y)).length→_:=fun k hk=>zNR hk
 have hSl:(shL (shN x y)).length≤81:=by
  rw[zHs hm4];have:=Nat.mul_le_mul (show 2*shN x y+1≤9 by omega) (show 2*shN x y+1≤9 by omega)
  omega
 have htake:∀k,k<(shL (shN x y)).length→alK w x y ((shL (shN x y)).take (k+1))=alK w x y ((shL (shN x y)).take k)++alI 0 ((shL (shN x y)).getD k mvZ) (alM w x y):=fun k hk=>zPh w x y _ k hk
 have hall:alL w x y=alK w x y ((shL (shN x y)).take (shL (shN x y)).length):=by unfold alL;rw[List.take_length]
 rw[hall];generalize shL (shN x y)=S at *;generalize stN w x y=t at *;generalize alM w x y=M at *;generalize hAK:alK w x y=AK at htake hall⊢;generalize hnl:S.length=n at hSh hbd hSl htake hall⊢;refine zJ Tryz.func98 rfl rfl Tryz.ntmps98 rfl ?_
 repeat (first
  |refine vB [0,1,4,5,6,7,8,9,11] ?_
  | (refine rG 2 ?_
     refine xE2 ?_;refine xB Tryz.func112 hSh ?_;refine vA ?_;refine aB ?_)
  | (refine rG 3 ?_
     refine xE5 ?_;refine xB Tryz.func113 hSt ?_;refine xE2 ?_;refine aB ?_)
  |(refine AWp.draw (id:=10) zK ?_;refine zFb ?_;refine xA ?_;refine vA ?_;refine aB ⟨by kernel_rfl,?_⟩))
 refine AWp.round (fun s:Nat×List Cl=>zC 49 [(7,.c (.ow 20)),(8,.c (.ls n 2 (zS mvC mvZ S))),(9,.c (iC (w+4-t))),(10,.c (iC s.1))] [(20,⟨true,s.2.length,3,66,zS clC clZ s.2⟩)] [20])
  (fun s=>s.1≤n∧s.2=AK (S.take s.1)∧s.2.length=M*s.1) (fun s=>n-s.1) (0,[]) ⟨Nat.zero_le _,by rw[List.take_zero,←hAK];rfl,by simp⟩ ?_ (fun s hs=> ?_)
 ·refine Wk.mk [(20,none)] rfl rfl rfl ?_ ?_
  ·exact zB
  ·exact zAf
 ·obtain⟨k,L⟩:=s
  obtain⟨hk,hL,hl⟩:=hs
  dsimp only at hk hL hl;dsimp only;by_cases hkn:k<n
  ·have hb:=hbd k hkn
   have hMk:M*k≤105*81:=Nat.mul_le_mul xD xD
   obtain⟨d,hd⟩:∃d,S.getD k mvZ=d:=⟨_,rfl⟩
   have htk:=htake k hkn;rw[hd]at htk
   repeat (first
    |refine vB [0,1,4,5,6,7,8,9,11] ?_
    |(refine AWp.draw (id:=10) zK ?_;refine zFb ?_;refine xA ?_;refine vA ?_;refine aB ⟨by kernel_rfl,?_⟩))
   refine AWp.round (fun s:Nat×List Cl=>zC 49 [(7,.c (.ow 20)),(8,.c (.ls n 2 (zS mvC mvZ S))),(9,.c (iC (w+4-t))),(10,.c (iC k)),(11,.c (iC ((s.1:Int)-4)))] [(20,⟨true,s.2.length,3,66,zS clC clZ s.2⟩)] [20])
    (fun s=>s.1≤M∧s.2=AK (S.take k)++alI 0 d s.1∧s.2.length=M*k+s.1) (fun s=>M-s.1) (0,L) ⟨Nat.zero_le _,by rw[hL];exact(List.append_nil _).symm,hl⟩ ?_ (fun s hs=> ?_)
   ·refine Wk.mk [(20,some 20)] rfl rfl rfl ?_ ?_
    ·exact zB
    ·exact zAf
   ·obtain⟨i,L2⟩:=s
    obtain⟨hi,hL2,hl2⟩:=hs
    dsimp only at hi hL2 hl2;dsimp only;by_cases hiM:i<M
    ·have hlen:(L2++ [(⟨d.1,d.2,(i:Int)-4⟩:Cl)]).length=L2.length+1:=by simp
     repeat (first
      |refine vB [0,1,4,5,6,7,8,9,11] ?_
      |(refine AWp.draw (id:=10) zK ?_;refine xE3 ?_;(first|refine zG (aP (k:=k) zA) ?_|refine zI (zH (k:=k) zA) ?_);refine xE4 ?_;(first|refine zG (aP (k:=k) zA) ?_|refine zI (zH (k:=k) zA) ?_);refine xE5 ?_;refine xA ?_;refine vA ?_;refine aB ⟨by kernel_rfl,?_⟩))
     refine⟨(i+1,L2++ [⟨d.1,d.2,(i:Int)-4⟩]),⟨by dsimp only;omega,by rw[hL2,zPg,List.append_assoc],by rw[hlen];dsimp only;omega⟩,Wk.mk [(20,some 47)] rfl rfl rfl ?_ ?_,by dsimp only;omega⟩
     ·exact zB
     ·rw[←hd]
      exact⟨HeapOk.row rfl rfl (by simp) (zBh L2 (⟨(S.getD k mvZ).1,(S.getD k mvZ).2,(i:Int)-4⟩:Cl) zPX rfl),trivial⟩
    ·obtain rfl:i=M:=by omega
     repeat (first
      |refine vB [0,1,4,5,6,7,8,9,11] ?_
      |(refine AWp.draw (id:=10) zK ?_;refine zFb ?_;refine xA ?_;refine vA ?_;refine aB ⟨by kernel_rfl,?_⟩))
     refine⟨(k+1,L2),⟨by dsimp only;omega,by rw[hL2,htk],by dsimp only;rw[hl2,Nat.mul_succ]⟩,Wk.mk [(20,some 20)] rfl rfl rfl ?_ ?_,by dsimp only;omega⟩
     ·exact zB
     ·exact zAf
  ·obtain rfl:k=n:=by omega
   subst hL
   repeat (first
    |refine vB [0,1,4,5,6,7,8,9,11] ?_
    |(refine AWp.draw (id:=10) zK ?_;refine zFb ?_;refine xA ?_;refine vA ?_;refine aB ⟨by kernel_rfl,?_⟩))
   refine⟨zC 49 [(6,.c (.ls (AK (S.take k)).length 3 (zS clC clZ (AK (S.take k)))))] [] [],[],Wk.mk [] rfl rfl rfl ?_ trivial,rfl,rfl,aR1⟩
   exact zB
theorem zPk{w:Int}{x y:Bg}{k:Nat}(hk:k<(alL w x y).length):∃j i,j<(shL (shN x y)).length∧i<alM w x y∧(alL w x y).getD k clZ=clK (shL (shN x y)) j i:=by
 have hm:(alL w x y).getD k clZ∈alL w x y:=by
  rw[List.getD_eq_getElem?_getD,List.getElem?_eq_getElem hk];exact List.getElem_mem hk
 generalize (alL w x y).getD k clZ=c at hm;unfold alL alK alI at hm
 simp only[List.mem_flatMap,List.mem_map,List.mem_range]at hm
 obtain⟨d,hd,i,hi,hc⟩:=hm
 obtain⟨j,hj,rfl⟩:=List.getElem_of_mem hd
 refine⟨j,i,hj,hi,?_⟩
 rw[←hc];unfold clK;rw[List.getD_eq_getElem?_getD,List.getElem?_eq_getElem hj]
 rfl
theorem zPi{w:Int}{x y:Bg}{k:Nat}(hw:0≤w∧w≤96)(hk:k<(alL w x y).length):((-4≤((alL w x y).getD k clZ).dx∧((alL w x y).getD k clZ).dx≤4)∧-4≤((alL w x y).getD k clZ).dy∧((alL w x y).getD k clZ).dy≤4)∧-4≤((alL w x y).getD k clZ).col∧((alL w x y).getD k clZ).col≤105:=by
 obtain⟨j,i,hj,hi,e⟩:=zPk hk
 rw[e];have h1:=zNQ hj;have h2:=zE3 x y hw.1;unfold alM at hi;unfold clK
 refine⟨h1,?_⟩
 dsimp only
 omega
theorem zPj{w:Int}{x y:Bg}(hw:0≤w∧w≤96):0<(alL w x y).length∧(alL w x y).length≤81*105:=by
 have hM:1≤alM w x y∧alM w x y≤105:=by
  have h2:=zE3 x y hw.1;unfold alM
  omega
 obtain⟨-,hm4⟩:=zE1 x y
 have hl:(alL w x y).length=(shL (shN x y)).length*alM w x y:=by
  unfold alL alK;generalize shL (shN x y)=S
  induction S with
  |nil=>simp
  |cons d S ih=>rw[List.flatMap_cons,List.length_append,ih,zGB,List.length_cons,Nat.succ_mul,Nat.add_comm]
 have hs1:1≤(2*shN x y+1)*(2*shN x y+1):=Nat.mul_le_mul (show 1≤2*shN x y+1 by omega) (show 1≤2*shN x y+1 by omega);have hs2:(2*shN x y+1)*(2*shN x y+1)≤9*9:=Nat.mul_le_mul (show 2*shN x y+1≤9 by omega) (show 2*shN x y+1≤9 by omega);rw[hl,zHs hm4]
 exact⟨Nat.mul_pos hs1 hM.1,Nat.mul_le_mul hs2 hM.2⟩
theorem zRB(a b:Bp)(x y:Bg):ACalls Tryz.prog 89 [.ag (bpC a),.ag (bpC b),.ag (bgC x),.ag (bgC y)] (.tu [.ag (clC (zCF a b x y).1),.c (bC (zCF a b x y).2)]):=by
 have hCo:=zOG a b;unfold zCF;by_cases hok:zBv a b
 ·rw [if_pos hok]
  rw[decide_eq_true hok]at hCo
  obtain⟨q0,q1,-,-,-⟩:=okB hok.1
  have hAll:=zOx a.W x y ⟨q0,q1⟩;have hlen:=zPj (x:=x) (y:=y) ⟨q0,q1⟩;have hbd:=fun k hk=>zPi (x:=x) (y:=y) (k:=k) ⟨q0,q1⟩ hk
  have hE:∀k,k<(alL a.W x y).length→ACalls Tryz.prog 99 [.ag (bpC a),.ag (bpC b),.ag (bgC x),.ag (bgC y),.ag (clC ((alL a.W x y).getD k clZ))] (.c (iC (xsV a b x y ((alL a.W x y).getD k clZ)))):=fun k hk=>by
   have h1:=hbd k hk;exact zRC a b x y _ hok.1 hok.2.1 xD xD xD
  clear hbd;generalize alL a.W x y=L at *
  obtain⟨n,hnl⟩:∃n,L.length=n:=⟨_,rfl⟩
  rw[hnl]at hAll hlen hE;refine zJ Tryz.func89 rfl rfl Tryz.ntmps89 rfl ?_
  repeat (first
   |refine vB [0,4] ?_
   | (refine rG 1 ?_
      refine xE2 ?_;refine xB Tryz.func97 hCo ?_;refine vA ?_;refine aB ?_)
   | (refine rG 3 ?_
      refine xE4 ?_;refine xB Tryz.func98 hAll ?_;refine vA ?_;refine aB ?_))
  refine AWp.round (fun k:Nat=>zC 43 [(4,.c (.pt 4 3 0 0)),(5,.c (.pt 5 3 0 0)),(6,.c (.pt 6 4 0 0)),(7,.c (.pt 7 4 0 0)),(8,.c (.pt 8 3 0 0)),(10,.c (.ls n 3 (zS clC clZ L))),(11,.c (iC k))] [(4,⟨false,1,3,58,lF (bpC a)⟩),(5,⟨false,1,3,58,lF (bpC b)⟩),(6,⟨false,1,4,61,lF (bgC x)⟩),(7,⟨false,1,4,61,lF (bgC y)⟩),(8,⟨false,1,3,66,lF (clC clZ)⟩)] [4,5,6,7,8])
   (fun k=>k≤n∧∀i,i<k→zFN a b x y (L.getD i clZ)=false) (fun k=>n-k) 0 ⟨Nat.zero_le _,fun _ h=>absurd h (Nat.not_lt_zero _)⟩ ?_ (fun k hk=> ?_)
  ·refine Wk.mk [(4,some 4),(5,some 5),(6,some 6),(7,some 7),(8,some 8)] rfl rfl rfl ?_ ?_
   ·exact zB
   ·exact zAf
  ·obtain⟨hk,hno⟩:=hk
   by_cases hkn:k<n
   ·have hEk:=hE k hkn
    by_cases hx:xsV a b x y (L.getD k clZ)≤0
    ·rw [zLI (zL8 (by rw[hnl];exact hkn) (decide_eq_true hx) hno)]
     repeat (first
      |refine vB [5] ?_
      |(refine AWp.draw (id:=7) zK ?_;refine xE6 ?_;refine zG (aP (k:=k) zA) ?_;refine vA ?_;refine xB Tryz.func99 hEk ?_;refine vA ?_;refine aB ⟨by kernel_rfl,?_⟩)
      | (refine rG 8 ?_
         refine xE2 ?_;refine zG (aP (k:=k) zA) ?_;refine xE3 ?_;refine aB ?_))
     refine⟨zC 43 [(8,.c (.pt 8 3 0 0)),(9,.c (bC true))] [(8,⟨false,1,3,66,lF (clC (L.getD k clZ))⟩)] [8],[(8,⟨false,1,3,66,lF (clC (L.getD k clZ))⟩)],Wk.mk [(8,some 8)] rfl rfl rfl ?_ ?_,rfl,rfl,ARets.two (x:=.ag _) (y:=.c _) (ARes.box zA rfl rfl rfl rfl rfl rfl rfl) (ARes.tmp rfl rfl)⟩
     ·exact zB
     ·exact zAf
    ·repeat (first
      |refine vB [5,6] ?_
      |(refine AWp.draw (id:=7) zK ?_;refine xE6 ?_;refine zG (aP (k:=k) zA) ?_;refine vA ?_;refine xB Tryz.func99 hEk ?_;refine vA ?_;refine aB ⟨by kernel_rfl,?_⟩))
     refine⟨k+1,⟨hkn,fun i hi=> ?_⟩,Wk.mk [(4,some 4),(5,some 5),(6,some 6),(7,some 7),(8,some 8)] rfl rfl rfl ?_ ?_,by omega⟩
     ·by_cases e:i=k
      ·rw[e];exact decide_eq_false hx
      ·exact hno i xD
     ·exact zB
     ·exact zAf
   ·obtain rfl:k=n:=by omega
    rw[zLJ (zIN (fun i hi=>hno i (by rw[←hnl];exact hi)))]
    refine vB [5,9] ?_
    refine⟨zC 43 [(8,.c (.pt 8 3 0 0)),(9,.c (bC false))] [(8,⟨false,1,3,66,lF (clC (clZ))⟩)] [8],[(8,⟨false,1,3,66,lF (clC (clZ))⟩)],Wk.mk [(8,some 8)] rfl rfl rfl ?_ ?_,rfl,rfl,ARets.two (x:=.ag _) (y:=.c _) (ARes.box zA rfl rfl rfl rfl rfl rfl rfl) (ARes.tmp rfl rfl)⟩
    ·exact zB
    ·exact zAf
 ·rw [if_neg hok]
  rw[decide_eq_false hok]at hCo;refine zJ Tryz.func89 rfl rfl Tryz.ntmps89 rfl ?_
  repeat (first
   |refine vB [0,2] ?_
   | (refine rG 1 ?_
      refine xE2 ?_;refine xB Tryz.func97 hCo ?_;refine vA ?_;refine aB ?_))
  refine⟨zC 43 [(8,.c (.pt 8 3 0 0)),(9,.c (bC false))] [(8,⟨false,1,3,66,lF (clC (clZ))⟩)] [8],[(8,⟨false,1,3,66,lF (clC (clZ))⟩)],Wk.mk [(8,some 8)] rfl rfl rfl ?_ ?_,rfl,rfl,ARets.two (x:=.ag _) (y:=.c _) (ARes.box zA rfl rfl rfl rfl rfl rfl rfl) (ARes.tmp rfl rfl)⟩
  ·exact zB
  ·exact zAf
end Go.Proofs.YtbffmfeldkjkcaaGreat
end
