/- Parts of the proof: A28m, A28q, A28r, A28s. -/
import Derived.Test.YtpefnljgalpllaaG29
set_option linter.unusedSimpArgs false
set_option linter.unusedVariables false
set_option maxHeartbeats 0
section
namespace Go.Proofs.Ytpefnljgalpllaa
open Go.RowKit Go.Flow Go.AV Go.Plain
def freeV(p:Pb)(n:Nat)(ch:Nat→Int)(c:Int):Bool:=(List.range p.F.length).all (fun k=> !pkV p n c (-1) k) && (List.range n).all (fun k=> !pkV p n c k (ch k))
theorem freeV_iff{p:Pb}{n:Nat}{ch:Nat→Int}{c:Int}:freeV p n ch c=true↔(∀k,k<p.F.length→pkV p n c (-1) k=false)∧(∀k,k<n→pkV p n c k (ch k)=false):=by
 unfold freeV
 simp[List.all_eq_true]
theorem freeV_no{p:Pb}{n:Nat}{ch:Nat→Int}{c:Int}(h:¬((∀k,k<p.F.length→pkV p n c (-1) k=false)∧(∀k,k<n→pkV p n c k (ch k)=false))):freeV p n ch c=false:=
 Bool.eq_false_iff.2 fun e=>h (freeV_iff.1 e)
set_option maxRecDepth 100000 in
theorem sfree_A(p:Pb)(hp:p.ok)(hT:p.T.length=p.F.length)(st:Int)(n:Nat)(ch:Nat→Int)(c:Int)(hn:n≤1000000)(h1:PkOk p n c)(h2:∀k,k<n→PkOk p k (ch k)):GCalls Try.prog 46 [.c (.pt 1000 7 0 0),.c (.ls n 1 (iF ch)),.c (iC c)] [srB p 1001 st,knB p] (.c (bC (freeV p n ch c))) [srB p 1001 st,knB p] []:=by
 have hp':=hp
 obtain⟨hrd,lR,lC,lF',lO,lT,lc⟩:=hp
 have hsc:=fun k h2 (hne:((n:Nat):Int)≠-1)=>sclash_A p hp' st n c (-1) ((k:Nat):Int) h1 h2 hne
 have hsd:=fun k h2 (hne:((n:Nat):Int)≠((k:Nat):Int))=>sclash_A p hp' st n c k (ch k) h1 h2 hne
 refine ge_at Try.func46 rfl rfl Try.ntmps46 rfl ?_
 refine vB [0,1,2] ?_
 refine AWp.round (fun k:Nat=>
  mkL 44 2 [(0,.c (.pt 1000 7 0 0)),(1,.c (.ls n 1 (iF ch))),(7,.c (.pt 7 2 0 0)),(20,.c (iC p.F.length)),(21,.c (iC (k:Nat)))] [(7,⟨false,1,2,123,lF [iC n,iC c]⟩),(1000,srB p 1001 st),(1001,knB p)] [7]
  ) (fun k=>k≤p.F.length∧∀j,j<k→pkV p n c (-1) j=false) (fun k=>p.F.length-k) 0 ⟨Nat.zero_le _,fun _ h=>absurd h (Nat.not_lt_zero _)⟩ ?_ (fun k hk=> ?_)
 ·refine Wk.mkL [(7,some 7)] rfl rfl rfl rfl rfl ?_ ?_
  ·repeat (first|exact trivial|refine⟨⟨_,rfl,by first|exact LeA.c (LeC.ptB _ _ _ _ rfl)|exact LeA.c (LeC.owB _ rfl)|exact leT⟩,?_⟩)
  ·exact⟨hSm,
   HeapOk.lentC rfl rfl ⟨LeC.refl _ rfl,LeC.refl _ rfl,LeC.refl _ rfl,LeC.refl _ rfl,LeC.refl _ rfl,LeC.owB 1001 rfl,LeC.int rfl,trivial⟩ rfl,HeapOk.lentMo rfl rfl (fun _ _ h=>h)
   ,trivial⟩
 obtain⟨hk,hno⟩:=hk
 by_cases hkl:k<p.F.length
 ·have hkl':(k:Int)<p.F.length:=by omega
  have hct:=hsc k (.inl ⟨rfl,k,rfl,hkl,by omega⟩) (by omega)
  have hfr:= @freeV_no p n ch c
  obtain⟨v,hv⟩:∃v,pkV p n c (-1) k=v:=⟨_,rfl⟩
  rw[hv]at hct
  cases v with
  | true=>
    rw[hfr fun h=>by rw[h.1 k hkl]at hv;cases hv]
    repeat (first
     |refine vB [3,4,6] ?_
     | (refine rG 5 ?_
        (iterate 4 refine vA ?_)
        refine AList.callG [1000,1001] [] [srB p 1001 st,knB p] [srB p 1001 st,knB p] [] [srB p 1001 st,knB p] [] rfl rfl FnV.func rfl Try.func65 rfl (by kernel_rfl) (lendS rfl rfl rfl rfl trivial) rfl (backP (bC true) rfl) (backS rfl trivial) (trivial) (hct) ?_
        refine aB ?_))
    refine⟨mkL 44 2 [(6,.c (bC false))] [(1000,srB p 1001 st),(1001,knB p)] [],[],_,[srB p 1001 st,knB p],[],⟨rfl,rfl,rfl⟩,rfl,Wk.mkL [] rfl rfl rfl rfl rfl ?_ ?_,rfl,rfl,GRets.one (x:=.c _) (GRes.tmp rfl)⟩
    ·exact allT
    ·exact⟨
     HeapOk.lentC rfl rfl ⟨LeC.refl _ rfl,LeC.refl _ rfl,LeC.refl _ rfl,LeC.refl _ rfl,LeC.refl _ rfl,LeC.owB 1001 rfl,LeC.int rfl,trivial⟩ rfl,HeapOk.lentMo rfl rfl (fun _ _ h=>h)
     ,trivial⟩
  | false=>
    repeat (first
     |refine vB [3,4,7] ?_
     | (refine rG 5 ?_
        (iterate 4 refine vA ?_)
        refine AList.callG [1000,1001] [] [srB p 1001 st,knB p] [srB p 1001 st,knB p] [] [srB p 1001 st,knB p] [] rfl rfl FnV.func rfl Try.func65 rfl (by kernel_rfl) (lendS rfl rfl rfl rfl trivial) rfl (backP (bC false) rfl) (backS rfl trivial) (trivial) (hct) ?_
        refine aB ?_))
    refine⟨k+1,⟨hkl,fun j hj=> ?_⟩,Wk.mkL [(7,some 7)] rfl rfl rfl rfl rfl ?_ ?_,by omega⟩
    ·by_cases e:j=k
     ·rw[e];exact hv
     ·exact hno j (by omega)
    ·repeat (first|exact trivial|refine⟨⟨_,rfl,by first|exact LeA.c (LeC.ptB _ _ _ _ rfl)|exact LeA.c (LeC.owB _ rfl)|exact leT⟩,?_⟩)
    ·exact⟨hSm,
     HeapOk.lentC rfl rfl ⟨LeC.refl _ rfl,LeC.refl _ rfl,LeC.refl _ rfl,LeC.refl _ rfl,LeC.refl _ rfl,LeC.owB 1001 rfl,LeC.int rfl,trivial⟩ rfl,HeapOk.lentMo rfl rfl (fun _ _ h=>h)
     ,trivial⟩
 have hkl':¬(k:Int)<p.F.length:=by omega
 obtain rfl:k=p.F.length:=by omega
 clear hk hkl
 refine vB [3,8] ?_
 refine AWp.round (fun k:Nat=>
  mkL 44 2 [(0,.c (.pt 1000 7 0 0)),(1,.c (.ls n 1 (iF ch))),(7,.c (.pt 7 2 0 0)),(30,.c (.ls n 1 (iF ch))),(31,.c (iC n)),(32,.c (iC (k:Nat)))] [(7,⟨false,1,2,123,lF [iC n,iC c]⟩),(1000,srB p 1001 st),(1001,knB p)] [7]
  ) (fun k=>k≤n∧∀j,j<k→pkV p n c j (ch j)=false) (fun k=>n-k) 0 ⟨Nat.zero_le _,fun _ h=>absurd h (Nat.not_lt_zero _)⟩ ?_ (fun k hk=> ?_)
 ·refine Wk.mkL [(7,some 7)] rfl rfl rfl rfl rfl ?_ ?_
  ·repeat (first|exact trivial|refine⟨⟨_,rfl,by first|exact LeA.c (LeC.ptB _ _ _ _ rfl)|exact LeA.c (LeC.owB _ rfl)|exact leT⟩,?_⟩)
  ·exact⟨hSm,
   HeapOk.lentC rfl rfl ⟨LeC.refl _ rfl,LeC.refl _ rfl,LeC.refl _ rfl,LeC.refl _ rfl,LeC.refl _ rfl,LeC.owB 1001 rfl,LeC.int rfl,trivial⟩ rfl,HeapOk.lentMo rfl rfl (fun _ _ h=>h)
   ,trivial⟩
 obtain⟨hk,hno2⟩:=hk
 by_cases hkl:k<n
 ·have hkl':(k:Int)<n:=by omega
  have hct:=hsd k (h2 k hkl) (by omega)
  have hfr:= @freeV_no p n ch c
  obtain⟨v,hv⟩:∃v,pkV p n c k (ch k)=v:=⟨_,rfl⟩
  rw[hv]at hct
  cases v with
  | true=>
    rw[hfr fun h=>by rw[h.2 k hkl]at hv;cases hv]
    repeat (first
     |refine vB [9,12] ?_
     | (refine rG 10 ?_
        refine vA ?_
        refine qr8eo2 (aP (k:=k) tyOk) ?_
        (iterate 3 refine vA ?_)
        refine aB ?_)
     | (refine rG 11 ?_
        (iterate 5 refine vA ?_)
        refine AList.callG [1000,1001] [] [srB p 1001 st,knB p] [srB p 1001 st,knB p] [] [srB p 1001 st,knB p] [] rfl rfl FnV.func rfl Try.func65 rfl (by kernel_rfl) (lendS rfl rfl rfl rfl trivial) rfl (backP (bC true) rfl) (backS rfl trivial) (trivial) (hct) ?_
        refine aB ?_))
    refine⟨mkL 44 2 [(6,.c (bC false))] [(1000,srB p 1001 st),(1001,knB p)] [],[],_,[srB p 1001 st,knB p],[],⟨rfl,rfl,rfl⟩,rfl,Wk.mkL [] rfl rfl rfl rfl rfl ?_ ?_,rfl,rfl,GRets.one (x:=.c _) (GRes.tmp rfl)⟩
    ·exact allT
    ·exact⟨
     HeapOk.lentC rfl rfl ⟨LeC.refl _ rfl,LeC.refl _ rfl,LeC.refl _ rfl,LeC.refl _ rfl,LeC.refl _ rfl,LeC.owB 1001 rfl,LeC.int rfl,trivial⟩ rfl,HeapOk.lentMo rfl rfl (fun _ _ h=>h)
     ,trivial⟩
  | false=>
    repeat (first
     |refine vB [9,13] ?_
     | (refine rG 10 ?_
        refine vA ?_
        refine qr8eo2 (aP (k:=k) tyOk) ?_
        (iterate 3 refine vA ?_)
        refine aB ?_)
     | (refine rG 11 ?_
        (iterate 5 refine vA ?_)
        refine AList.callG [1000,1001] [] [srB p 1001 st,knB p] [srB p 1001 st,knB p] [] [srB p 1001 st,knB p] [] rfl rfl FnV.func rfl Try.func65 rfl (by kernel_rfl) (lendS rfl rfl rfl rfl trivial) rfl (backP (bC false) rfl) (backS rfl trivial) (trivial) (hct) ?_
        refine aB ?_))
    refine⟨k+1,⟨hkl,fun j hj=> ?_⟩,Wk.mkL [(7,some 7)] rfl rfl rfl rfl rfl ?_ ?_,by omega⟩
    ·by_cases e:j=k
     ·rw[e];exact hv
     ·exact hno2 j (by omega)
    ·repeat (first|exact trivial|refine⟨⟨_,rfl,by first|exact LeA.c (LeC.ptB _ _ _ _ rfl)|exact LeA.c (LeC.owB _ rfl)|exact leT⟩,?_⟩)
    ·exact⟨hSm,
     HeapOk.lentC rfl rfl ⟨LeC.refl _ rfl,LeC.refl _ rfl,LeC.refl _ rfl,LeC.refl _ rfl,LeC.refl _ rfl,LeC.owB 1001 rfl,LeC.int rfl,trivial⟩ rfl,HeapOk.lentMo rfl rfl (fun _ _ h=>h)
     ,trivial⟩
 have hkl':¬(k:Int)<n:=by omega
 obtain rfl:n=k:=by omega
 rw[freeV_iff.2 ⟨hno,hno2⟩]
 refine vB [9,14] ?_
 refine⟨mkL 44 2 [(6,.c (bC true))] [(1000,srB p 1001 st),(1001,knB p)] [],[],_,[srB p 1001 st,knB p],[],⟨rfl,rfl,rfl⟩,rfl,Wk.mkL [] rfl rfl rfl rfl rfl ?_ ?_,rfl,rfl,GRets.one (x:=.c _) (GRes.tmp rfl)⟩
 ·exact allT
 ·exact⟨
  HeapOk.lentC rfl rfl ⟨LeC.refl _ rfl,LeC.refl _ rfl,LeC.refl _ rfl,LeC.refl _ rfl,LeC.refl _ rfl,LeC.owB 1001 rfl,LeC.int rfl,trivial⟩ rfl,HeapOk.lentMo rfl rfl (fun _ _ h=>h)
  ,trivial⟩
set_option maxRecDepth 100000 in
theorem sfree_R(p:Pb)(hp:p.ok)(hT:p.T.length=p.F.length)(st:Int)(n:Nat)(ch:Nat→Int)(c:Int)(hn:n≤1000000)(h1:PkOk p n c)(h2:∀k,k<n→PkOk p k (ch k)):GCalls Try.prog 46 [.c (.pt 1000 7 0 0),.c (.ow 1002),.c (iC c)] [srB p 1001 st,knB p,rowI n ch] (.c (bC (freeV p n ch c))) [srB p 1001 st,knB p,rowI n ch] []:=by
 have hp':=hp
 obtain⟨hrd,lR,lC,lF',lO,lT,lc⟩:=hp
 have hsc:=fun k h2 (hne:((n:Nat):Int)≠-1)=>sclash_A p hp' st n c (-1) ((k:Nat):Int) h1 h2 hne
 have hsd:=fun k h2 (hne:((n:Nat):Int)≠((k:Nat):Int))=>sclash_A p hp' st n c k (ch k) h1 h2 hne
 refine ge_at Try.func46 rfl rfl Try.ntmps46 rfl ?_
 refine vB [0,1,2] ?_
 refine AWp.round (fun k:Nat=>
  mkL 44 3 [(0,.c (.pt 1000 7 0 0)),(1,.c (.ow 1002)),(7,.c (.pt 7 2 0 0)),(20,.c (iC p.F.length)),(21,.c (iC (k:Nat)))] [(7,⟨false,1,2,123,lF [iC n,iC c]⟩),(1000,srB p 1001 st),(1001,knB p),(1002,rowI n ch)] [7]
  ) (fun k=>k≤p.F.length∧∀j,j<k→pkV p n c (-1) j=false) (fun k=>p.F.length-k) 0 ⟨Nat.zero_le _,fun _ h=>absurd h (Nat.not_lt_zero _)⟩ ?_ (fun k hk=> ?_)
 ·refine Wk.mkL [(7,some 7)] rfl rfl rfl rfl rfl ?_ ?_
  ·repeat (first|exact trivial|refine⟨⟨_,rfl,by first|exact LeA.c (LeC.ptB _ _ _ _ rfl)|exact LeA.c (LeC.owB _ rfl)|exact leT⟩,?_⟩)
  ·exact⟨hSm,
   HeapOk.lentC rfl rfl ⟨LeC.refl _ rfl,LeC.refl _ rfl,LeC.refl _ rfl,LeC.refl _ rfl,LeC.refl _ rfl,LeC.owB 1001 rfl,LeC.int rfl,trivial⟩ rfl,HeapOk.lentMo rfl rfl (fun _ _ h=>h)
   ,HeapOk.lentRow rfl rfl (fun i _=>cell1 ⟨rfl,rfl⟩),trivial⟩
 obtain⟨hk,hno⟩:=hk
 by_cases hkl:k<p.F.length
 ·have hkl':(k:Int)<p.F.length:=by omega
  have hct:=hsc k (.inl ⟨rfl,k,rfl,hkl,by omega⟩) (by omega)
  have hfr:= @freeV_no p n ch c
  obtain⟨v,hv⟩:∃v,pkV p n c (-1) k=v:=⟨_,rfl⟩
  rw[hv]at hct
  cases v with
  | true=>
    rw[hfr fun h=>by rw[h.1 k hkl]at hv;cases hv]
    repeat (first
     |refine vB [3,4,6] ?_
     | (refine rG 5 ?_
        (iterate 4 refine vA ?_)
        refine AList.callG [1000,1001] [] [srB p 1001 st,knB p] [srB p 1001 st,knB p] [] [srB p 1001 st,knB p] [] rfl rfl FnV.func rfl Try.func65 rfl (by kernel_rfl) (lendS rfl rfl rfl rfl trivial) rfl (backP (bC true) rfl) (backS rfl trivial) (trivial) (hct) ?_
        refine aB ?_))
    refine⟨mkL 44 3 [(6,.c (bC false))] [(1000,srB p 1001 st),(1001,knB p),(1002,rowI n ch)] [],[],_,[srB p 1001 st,knB p,rowI n ch],[],⟨rfl,rfl,rfl⟩,rfl,Wk.mkL [] rfl rfl rfl rfl rfl ?_ ?_,rfl,rfl,GRets.one (x:=.c _) (GRes.tmp rfl)⟩
    ·exact allT
    ·exact⟨
     HeapOk.lentC rfl rfl ⟨LeC.refl _ rfl,LeC.refl _ rfl,LeC.refl _ rfl,LeC.refl _ rfl,LeC.refl _ rfl,LeC.owB 1001 rfl,LeC.int rfl,trivial⟩ rfl,HeapOk.lentMo rfl rfl (fun _ _ h=>h)
     ,HeapOk.lentRow rfl rfl (fun i _=>cell1 ⟨rfl,rfl⟩),trivial⟩
  | false=>
    repeat (first
     |refine vB [3,4,7] ?_
     | (refine rG 5 ?_
        (iterate 4 refine vA ?_)
        refine AList.callG [1000,1001] [] [srB p 1001 st,knB p] [srB p 1001 st,knB p] [] [srB p 1001 st,knB p] [] rfl rfl FnV.func rfl Try.func65 rfl (by kernel_rfl) (lendS rfl rfl rfl rfl trivial) rfl (backP (bC false) rfl) (backS rfl trivial) (trivial) (hct) ?_
        refine aB ?_))
    refine⟨k+1,⟨hkl,fun j hj=> ?_⟩,Wk.mkL [(7,some 7)] rfl rfl rfl rfl rfl ?_ ?_,by omega⟩
    ·by_cases e:j=k
     ·rw[e];exact hv
     ·exact hno j (by omega)
    ·repeat (first|exact trivial|refine⟨⟨_,rfl,by first|exact LeA.c (LeC.ptB _ _ _ _ rfl)|exact LeA.c (LeC.owB _ rfl)|exact leT⟩,?_⟩)
    ·exact⟨hSm,
     HeapOk.lentC rfl rfl ⟨LeC.refl _ rfl,LeC.refl _ rfl,LeC.refl _ rfl,LeC.refl _ rfl,LeC.refl _ rfl,LeC.owB 1001 rfl,LeC.int rfl,trivial⟩ rfl,HeapOk.lentMo rfl rfl (fun _ _ h=>h)
     ,HeapOk.lentRow rfl rfl (fun i _=>cell1 ⟨rfl,rfl⟩),trivial⟩
 have hkl':¬(k:Int)<p.F.length:=by omega
 obtain rfl:k=p.F.length:=by omega
 clear hk hkl
 refine vB [3,8] ?_
 refine AWp.round (fun k:Nat=>
  mkL 44 3 [(0,.c (.pt 1000 7 0 0)),(1,.c (.ow 1002)),(7,.c (.pt 7 2 0 0)),(30,.c (.ow 1002)),(31,.c (iC n)),(32,.c (iC (k:Nat)))] [(7,⟨false,1,2,123,lF [iC n,iC c]⟩),(1000,srB p 1001 st),(1001,knB p),(1002,rowI n ch)] [7]
  ) (fun k=>k≤n∧∀j,j<k→pkV p n c j (ch j)=false) (fun k=>n-k) 0 ⟨Nat.zero_le _,fun _ h=>absurd h (Nat.not_lt_zero _)⟩ ?_ (fun k hk=> ?_)
 ·refine Wk.mkL [(7,some 7)] rfl rfl rfl rfl rfl ?_ ?_
  ·repeat (first|exact trivial|refine⟨⟨_,rfl,by first|exact LeA.c (LeC.ptB _ _ _ _ rfl)|exact LeA.c (LeC.owB _ rfl)|exact leT⟩,?_⟩)
  ·exact⟨hSm,
   HeapOk.lentC rfl rfl ⟨LeC.refl _ rfl,LeC.refl _ rfl,LeC.refl _ rfl,LeC.refl _ rfl,LeC.refl _ rfl,LeC.owB 1001 rfl,LeC.int rfl,trivial⟩ rfl,HeapOk.lentMo rfl rfl (fun _ _ h=>h)
   ,HeapOk.lentRow rfl rfl (fun i _=>cell1 ⟨rfl,rfl⟩),trivial⟩
 obtain⟨hk,hno2⟩:=hk
 by_cases hkl:k<n
 ·have hkl':(k:Int)<n:=by omega
  have hct:=hsd k (h2 k hkl) (by omega)
  have hfr:= @freeV_no p n ch c
  obtain⟨v,hv⟩:∃v,pkV p n c k (ch k)=v:=⟨_,rfl⟩
  rw[hv]at hct
  cases v with
  | true=>
    rw[hfr fun h=>by rw[h.2 k hkl]at hv;cases hv]
    repeat (first
     |refine vB [9,12] ?_
     | (refine rG 10 ?_
        refine vA ?_
        refine qr10eo (AList.idxOw (k:=k) tyOk) ?_
        (iterate 3 refine vA ?_)
        refine aB ?_)
     | (refine rG 11 ?_
        (iterate 5 refine vA ?_)
        refine AList.callG [1000,1001] [] [srB p 1001 st,knB p] [srB p 1001 st,knB p] [] [srB p 1001 st,knB p] [] rfl rfl FnV.func rfl Try.func65 rfl (by kernel_rfl) (lendS rfl rfl rfl rfl trivial) rfl (backP (bC true) rfl) (backS rfl trivial) (trivial) (hct) ?_
        refine aB ?_))
    refine⟨mkL 44 3 [(6,.c (bC false))] [(1000,srB p 1001 st),(1001,knB p),(1002,rowI n ch)] [],[],_,[srB p 1001 st,knB p,rowI n ch],[],⟨rfl,rfl,rfl⟩,rfl,Wk.mkL [] rfl rfl rfl rfl rfl ?_ ?_,rfl,rfl,GRets.one (x:=.c _) (GRes.tmp rfl)⟩
    ·exact allT
    ·exact⟨
     HeapOk.lentC rfl rfl ⟨LeC.refl _ rfl,LeC.refl _ rfl,LeC.refl _ rfl,LeC.refl _ rfl,LeC.refl _ rfl,LeC.owB 1001 rfl,LeC.int rfl,trivial⟩ rfl,HeapOk.lentMo rfl rfl (fun _ _ h=>h)
     ,HeapOk.lentRow rfl rfl (fun i _=>cell1 ⟨rfl,rfl⟩),trivial⟩
  | false=>
    repeat (first
     |refine vB [9,13] ?_
     | (refine rG 10 ?_
        refine vA ?_
        refine qr10eo (AList.idxOw (k:=k) tyOk) ?_
        (iterate 3 refine vA ?_)
        refine aB ?_)
     | (refine rG 11 ?_
        (iterate 5 refine vA ?_)
        refine AList.callG [1000,1001] [] [srB p 1001 st,knB p] [srB p 1001 st,knB p] [] [srB p 1001 st,knB p] [] rfl rfl FnV.func rfl Try.func65 rfl (by kernel_rfl) (lendS rfl rfl rfl rfl trivial) rfl (backP (bC false) rfl) (backS rfl trivial) (trivial) (hct) ?_
        refine aB ?_))
    refine⟨k+1,⟨hkl,fun j hj=> ?_⟩,Wk.mkL [(7,some 7)] rfl rfl rfl rfl rfl ?_ ?_,by omega⟩
    ·by_cases e:j=k
     ·rw[e];exact hv
     ·exact hno2 j (by omega)
    ·repeat (first|exact trivial|refine⟨⟨_,rfl,by first|exact LeA.c (LeC.ptB _ _ _ _ rfl)|exact LeA.c (LeC.owB _ rfl)|exact leT⟩,?_⟩)
    ·exact⟨hSm,
     HeapOk.lentC rfl rfl ⟨LeC.refl _ rfl,LeC.refl _ rfl,LeC.refl _ rfl,LeC.refl _ rfl,LeC.refl _ rfl,LeC.owB 1001 rfl,LeC.int rfl,trivial⟩ rfl,HeapOk.lentMo rfl rfl (fun _ _ h=>h)
     ,HeapOk.lentRow rfl rfl (fun i _=>cell1 ⟨rfl,rfl⟩),trivial⟩
 have hkl':¬(k:Int)<n:=by omega
 obtain rfl:n=k:=by omega
 rw[freeV_iff.2 ⟨hno,hno2⟩]
 refine vB [9,14] ?_
 refine⟨mkL 44 3 [(6,.c (bC true))] [(1000,srB p 1001 st),(1001,knB p),(1002,rowI n ch)] [],[],_,[srB p 1001 st,knB p,rowI n ch],[],⟨rfl,rfl,rfl⟩,rfl,Wk.mkL [] rfl rfl rfl rfl rfl ?_ ?_,rfl,rfl,GRets.one (x:=.c _) (GRes.tmp rfl)⟩
 ·exact allT
 ·exact⟨
  HeapOk.lentC rfl rfl ⟨LeC.refl _ rfl,LeC.refl _ rfl,LeC.refl _ rfl,LeC.refl _ rfl,LeC.refl _ rfl,LeC.owB 1001 rfl,LeC.int rfl,trivial⟩ rfl,HeapOk.lentMo rfl rfl (fun _ _ h=>h)
  ,HeapOk.lentRow rfl rfl (fun i _=>cell1 ⟨rfl,rfl⟩),trivial⟩
end Go.Proofs.Ytpefnljgalpllaa
end
section
namespace Go.AV
open Go Go.RowKit Go.Flow
theorem GE.cv{P:Program}{f:FuncId}{args args':List V1}{hs:List AB}{R:AV→List AB→List AB→Prop}(h:GE P f args hs R)(hc:LeL CvV args' args):GE P f args' hs R:=fun b0 vals h1 h2 h3 h4=>h b0 vals h1 h2 h3 (CvL.rep hc h4)
end Go.AV
namespace Go.Proofs.Ytpefnljgalpllaa
open Go.RowKit Go.Flow Go.AV Go.Plain
abbrev FR:=List Int×Int×Int
abbrev fI(ch:List Int)(k:Nat):Int:=ch.getD k 0
abbrev lsI(ch:List Int):CV:=.ls ch.length 1 (iF (fI ch))
def tryV(rec:List Int→Int→FR)(p:Pb)(ch:List Int):Nat→Nat→Int→FR
 |0,_,st=>([],60,st)
 |r+1,c,st=>if 20000<st+1 then ([],61,st+1)else if freeV p ch.length (fI ch) c=true then (if (rec (ch++ [(c:Int)]) (st+1)).2.1=60 then tryV rec p ch r (c+1) (rec (ch++ [(c:Int)]) (st+1)).2.2 else rec (ch++ [(c:Int)]) (st+1))else tryV rec p ch r (c+1) (st+1)
def fromV(p:Pb):Nat→List Int→Int→FR
 |0,ch,st=>(ch,0,st)
 |m+1,ch,st=>tryV (fromV p m) p ch (p.C.getD ch.length []).length 0 st
section
variable{rec:List Int→Int→FR}{p:Pb}{ch:List Int}{r c:Nat}{st:Int}
theorem tryV_over(h:20000<st+1):tryV rec p ch (r+1) c st=([],61,st+1):=if_pos h
theorem tryV_skip(h:¬20000<st+1)(hf:freeV p ch.length (fI ch) c=false):tryV rec p ch (r+1) c st=tryV rec p ch r (c+1) (st+1):=by
 show(if _ then _ else _)=_
 rw[if_neg h,if_neg (by rw[hf];simp)]
theorem tryV_go(h:¬20000<st+1)(hf:freeV p ch.length (fI ch) c=true)(he:(rec (ch++ [(c:Int)]) (st+1)).2.1=60):tryV rec p ch (r+1) c st=tryV rec p ch r (c+1) (rec (ch++ [(c:Int)]) (st+1)).2.2:=by
 show(if _ then _ else _)=_
 rw[if_neg h,if_pos hf,if_pos he]
theorem tryV_out(h:¬20000<st+1)(hf:freeV p ch.length (fI ch) c=true)(he:(rec (ch++ [(c:Int)]) (st+1)).2.1≠60):tryV rec p ch (r+1) c st=rec (ch++ [(c:Int)]) (st+1):=by
 show(if _ then _ else _)=_
 rw[if_neg h,if_pos hf,if_neg he]
end
def StOk(o:FR):Prop:=0≤o.2.2∧(o.2.1=60→o.2.2≤20000)
theorem tryV_st{rec:List Int→Int→FR}{p:Pb}{ch:List Int}(hr:∀ch st,0≤st∧st≤20000→StOk (rec ch st)):∀(r c:Nat) (st:Int),0≤st∧st≤20000→StOk (tryV rec p ch r c st)
 |0,_,st,h=>⟨h.1,fun _=>h.2⟩
 | r+1,c,st,h=>by
   by_cases h1:20000<st+1
   ·rw[tryV_over h1];exact⟨by show 0≤st+1;omega,fun e=>by cases e⟩
   ·cases hf:freeV p ch.length (fI ch) c with
    |false=>rw[tryV_skip h1 hf];exact tryV_st hr r _ _ ⟨by omega,by omega⟩
    | true=>
      have h2:=hr (ch++ [(c:Int)]) (st+1) ⟨by omega,by omega⟩
      by_cases he:(rec (ch++ [(c:Int)]) (st+1)).2.1=60
      ·rw[tryV_go h1 hf he];exact tryV_st hr r _ _ ⟨h2.1,h2.2 he⟩
      ·rw[tryV_out h1 hf he];exact h2
theorem fromV_st{p:Pb}:∀(m:Nat) (ch:List Int) (st:Int),0≤st∧st≤20000→StOk (fromV p m ch st)
 |0,_,st,h=>⟨h.1,fun e=>by cases e⟩
 |m+1,ch,st,h=>tryV_st (fromV_st m) _ _ _ h
theorem fI_snoc(ch:List Int)(c:Int):∀k,k<ch.length→fI (ch++ [c]) k=fI ch k:=fun k hk=>by
 show(ch++ [c]).getD k 0=ch.getD k 0
 rw[List.getD_eq_getElem?_getD,List.getElem?_append_left hk,←List.getD_eq_getElem?_getD]
theorem fI_last(ch:List Int)(c:Int):fI (ch++ [c]) ch.length=c:=by
 show(ch++ [c]).getD ch.length 0=c
 simp
theorem chI_snoc(ch:List Int)(c:Int):∀i,i<ch.length+1→∀j,j<1→appF (iF (fI ch)) ch.length (sF [iC c] 1) i j=iF (fI (ch++ [c])) i j∧immC (appF (iF (fI ch)) ch.length (sF [iC c] 1) i j)=true:=
 app_F (G:=iF (fI (ch++ [c]))) (fun i hi j _=>by show CV.p _=CV.p _;rw[fI_snoc ch c i hi]) (cell1 (by show iC c=CV.p _;rw[fI_last])) (fun _ _ _ _=>rfl)
def ChOk(p:Pb)(ch:List Int):Prop:=∀k,k<ch.length→PkOk p k (fI ch k)
theorem ChOk.snoc{p:Pb}{ch:List Int}{c:Int}(h:ChOk p ch)(hc:PkOk p ch.length c):ChOk p (ch++ [c]):=fun k hk=>by
 rw[List.length_append]at hk
 have hk:k<ch.length+1:=hk
 by_cases e:k=ch.length
 ·rw[e,fI_last];exact hc
 ·rw[fI_snoc ch c k (by omega)];exact h k (by omega)
structure Pb.fit(p:Pb):Prop where
 ok:p.ok
 t:p.T.length=p.F.length
 o:p.O.length=p.C.length
 c:p.C.length≤200
 f:p.F.length≤200
 l:∀l∈p.C,l.length≤32
theorem Pb.fit.pk{p:Pb}(h:p.fit){n:Nat}(hn:n<p.C.length){c:Nat}(hc:c<(p.C.getD n []).length):PkOk p n c:=.inr ⟨n,c,rfl,rfl,hn,by rw[h.o];exact hn,hc⟩
end Go.Proofs.Ytpefnljgalpllaa
end
section
namespace Go.Proofs.Ytpefnljgalpllaa
open Go.RowKit Go.Flow Go.AV Go.Plain
theorem backT2{ids ni:List Nat}(x y:CV)(hx:immC x=true)(hy:immC y=true):BackA ids ni (.tu [.c x,.c y]) (.tu [.c x,.c y]):=.tu ⟨.c (.imm x hx),.c (.imm y hy),trivial⟩
abbrev rowC(ch:List Int):AB:=rowI ch.length (fI ch)
set_option maxRecDepth 100000 in
theorem from_R(p:Pb)(hp:p.fit):∀(m:Nat) (ch:List Int) (st:Int) (F:Nat→Nat→CV),ch.length+m=p.C.length→0<ch.length→ChOk p ch→(0≤st∧st≤20000)→(∀k,k<ch.length→∀j,j<1→F k j=iF (fI ch) k j)→
 GCalls Try.prog 39 [.c (.pt 1000 7 0 0),.c (.ow 1002)] [srB p 1001 st,knB p,⟨true,ch.length,1,3,F⟩] (.tu [.c (lsI (fromV p m ch st).1),.c (iC (fromV p m ch st).2.1)]) [srB p 1001 (fromV p m ch st).2.2,knB p,⟨true,ch.length,1,3,F⟩] []
 | 0,ch,st,F,hm,h0,hch,hst,hF=>by
   have hcl:=hp.c
   have hlen:((ch.length:Nat):Int)=p.C.length:=by omega
   obtain⟨V,hV⟩:∃V,fromV p 0 ch st=V:=⟨_,rfl⟩
   rw[hV]
   replace hV:(ch,(0:Int),st)=V:=hV
   subst hV
   refine ge_at Try.func39 rfl rfl Try.ntmps39 rfl ?_
   repeat (first
    |refine vB [0,1] ?_
    | (refine rG 2 ?_
       (iterate 2 refine vA ?_)
       refine AList.appO tyOk rfl rfl rfl rfl rfl rfl rfl rfl rfl rfl rfl oM oM ?_
       (iterate 2 refine vA ?_)
       refine aB ?_))
   refine⟨mkL 65 3 [(4,.c (lsI ch)),(5,.c (iC 0))] [(1000,srB p 1001 st),(1001,knB p),(1002,⟨true,ch.length,1,3,F⟩)] [],[],_,[srB p 1001 st,knB p,⟨true,ch.length,1,3,F⟩],[],⟨rfl,rfl,rfl⟩,rfl,Wk.mkL [] rfl rfl rfl rfl rfl ?_ ?_,rfl,rfl,GRets.two (x:=.c _) (y:=.c _) (GRes.tmp rfl) (GRes.tmp rfl)⟩
   ·exact⟨⟨_,rfl,.c (LeC.fz rfl rfl (by omega) (fun i hi j hj=>⟨hF i (by omega) j hj,by show immC (F i j)=true;rw[hF i (by omega) j hj];rfl⟩))⟩,⟨_,rfl,LeA.int rfl⟩,trivial⟩
   ·exact⟨
    HeapOk.lentC rfl rfl ⟨LeC.refl _ rfl,LeC.refl _ rfl,LeC.refl _ rfl,LeC.refl _ rfl,LeC.refl _ rfl,LeC.owB 1001 rfl,LeC.int rfl,trivial⟩ rfl,HeapOk.lentMo rfl rfl (fun _ _ h=>h)
    ,HeapOk.lentRow rfl rfl (fun k hk j hj=>⟨rfl,by show immC (F k j)=true;rw[hF k hk j hj];rfl⟩),trivial⟩
 | m + 1,ch,st,F,hm,h0,hch,hst,hF=>by
   have hlt:ch.length<p.C.length:=by omega
   have hlt':¬((ch.length:Nat):Int)=p.C.length:=by omega
   have hfree:=fun st c h1=>sfree_R p hp.ok hp.t st ch.length (fI ch) c (by have:=hp.c;omega) h1 hch
   have hih:=fun st c hst h1=>from_R p hp m (ch++ [c]) st (appF (iF (fI ch)) ch.length (sF [iC c] 1)) (by simp only[List.length_append,List.length_singleton];omega) (by simp) (hch.snoc h1) hst (fun k hk j hj=>(chI_snoc ch c k (by simpa using hk) j hj).1)
   simp only[List.length_append,List.length_singleton]at hih
   refine ge_at Try.func39 rfl rfl Try.ntmps39 rfl ?_
   refine vB [0] ?_
   refine AWp.weak (S':=
    mkL 65 3 [(0,.c (.pt 1000 7 0 0)),(1,.c (.ow 1002))] [(1000,srB p 1001 (st)),(1001,knB p),(1002,rowC ch)] []
    ) (Wk.mkL [] rfl rfl rfl rfl rfl ?_ ?_) ?_
   ·repeat (first|exact trivial|refine⟨⟨_,rfl,by first|exact LeA.c (LeC.ptB _ _ _ _ rfl)|exact LeA.c (LeC.owB _ rfl)|exact leT⟩,?_⟩)
   ·exact⟨
    HeapOk.lentC rfl rfl ⟨LeC.refl _ rfl,LeC.refl _ rfl,LeC.refl _ rfl,LeC.refl _ rfl,LeC.refl _ rfl,LeC.owB 1001 rfl,LeC.int rfl,trivial⟩ rfl,HeapOk.lentMo rfl rfl (fun _ _ h=>h)
    ,HeapOk.lentRow rfl rfl (fun k hk j hj=>⟨hF k hk j hj,by rw[hF k hk j hj];rfl⟩),trivial⟩
   obtain⟨L,hL⟩:∃L,p.C.getD (ch).length []=L:=⟨_,rfl⟩
   have hLl:L.length≤32:=by rw[←hL];exact hp.l _ (getD_mem28 hlt)
   have hcF:chF p.C (ch).length 0=lsB L:=by rw[←hL]
   have hcl:=hp.c
   have hpk:=fun c (h:c<L.length)=>hp.pk hlt (c:=c) (by rw[hL];exact h)
   obtain⟨V,hV⟩:∃V,fromV p (m+1) (ch) st=V:=⟨_,rfl⟩
   rw[hV]
   replace hV:tryV (fromV p m) p (ch) L.length 0 st=V:=by rw[←hL];exact hV
   repeat (first
    |refine vB [1] ?_
    | (refine rG 3 ?_
       (iterate 7 refine vA ?_)
       refine qr8eo2 (aP (k:=ch.length) tyOk) ?_
       refine AList.load1lE tyOk (hcF) rfl rfl rfl rfl rfl oM ?_
       (iterate 2 refine vA ?_)
       refine aB ?_))
   refine AWp.round (fun s:Nat×Int=>
    mkL 65 3 [(0,.c (.pt 1000 7 0 0)),(1,.c (.ow 1002)),(30,.c (iC L.length)),(31,.c (iC s.1))] [(1000,srB p 1001 (s.2)),(1001,knB p),(1002,rowC ch)] []
    ) (fun s=>s.1≤L.length∧(0≤s.2∧s.2≤20000)∧tryV (fromV p m) p (ch) (L.length-s.1) s.1 s.2=V) (fun s=>L.length-s.1) (0,st) ⟨Nat.zero_le _,hst,hV⟩ ?_ (fun s hs=> ?_)
   ·refine Wk.mkL [] rfl rfl rfl rfl rfl ?_ ?_
    ·repeat (first|exact trivial|refine⟨⟨_,rfl,by first|exact LeA.c (LeC.ptB _ _ _ _ rfl)|exact LeA.c (LeC.owB _ rfl)|exact leT⟩,?_⟩)
    ·exact⟨
     HeapOk.lentC rfl rfl ⟨LeC.refl _ rfl,LeC.refl _ rfl,LeC.refl _ rfl,LeC.refl _ rfl,LeC.refl _ rfl,LeC.owB 1001 rfl,LeC.int rfl,trivial⟩ rfl,HeapOk.lentMo rfl rfl (fun _ _ h=>h)
     ,HeapOk.lentRow rfl rfl (fun i _=>cell1 ⟨rfl,rfl⟩),trivial⟩
   obtain⟨c,st1⟩:=s
   obtain⟨hc,hst1,hinv⟩:=hs
   dsimp only at hc hst1 hinv⊢
   by_cases hcl:c<L.length
   ·have hcl':(c:Int)<L.length:=by omega
    obtain⟨r,hr⟩:∃r,L.length-c=r+1:=⟨L.length-c-1,by omega⟩
    have hr':L.length-(c+1)=r:=by omega
    rw[hr]at hinv
    by_cases hov:20000<st1+1
    ·have hov':st1+1>20000:=hov
     rw[tryV_over hov]at hinv
     subst hinv
     refine vB [4,5,6,7,8] ?_
     refine⟨mkL 65 3 [(4,.c (lsI ([]))),(5,.c (iC (61)))] [(1000,srB p 1001 (st1+1)),(1001,knB p),(1002,⟨true,ch.length,1,3,F⟩)] [],[],_,[srB p 1001 (st1+1),knB p,⟨true,ch.length,1,3,F⟩],[],⟨rfl,rfl,rfl⟩,rfl,Wk.mkL [] rfl rfl rfl rfl rfl ?_ ?_,rfl,rfl,GRets.two (x:=.c _) (y:=.c _) (GRes.tmp rfl) (GRes.tmp rfl)⟩
     ·exact allT
     ·exact⟨
      HeapOk.lentC rfl rfl ⟨LeC.refl _ rfl,LeC.refl _ rfl,LeC.refl _ rfl,LeC.refl _ rfl,LeC.refl _ rfl,LeC.owB 1001 rfl,LeC.int rfl,trivial⟩ rfl,HeapOk.lentMo rfl rfl (fun _ _ h=>h)
      ,HeapOk.lentRow rfl rfl (fun k hk j hj=>⟨(hF k hk j hj).symm,rfl⟩),trivial⟩
    ·have hov':¬st1+1>20000:=hov
     have hfr:=hfree (st1+1) (c:Int) (hpk c hcl)
     obtain⟨f,hf⟩:∃f,freeV p (ch).length (fI (ch)) c=f:=⟨_,rfl⟩
     rw[hf]at hfr
     cases f with
     | false=>
       rw[tryV_skip hov hf]at hinv
       repeat (first
        |refine vB [4,5,6,7,13] ?_
        | (refine rG 9 ?_
           (iterate 3 refine vA ?_)
           refine AList.callG [1000,1001,1002] [] [srB p 1001 (st1+1),knB p,rowC ch] [srB p 1001 (st1+1),knB p,rowC ch] [] [srB p 1001 (st1+1),knB p,rowC ch] [] rfl rfl FnV.func rfl Try.func46 rfl (by kernel_rfl) (lendS rfl rfl rfl rfl (LendOk2.row rfl h0 (fun i _=>cell1 ⟨rfl,rfl⟩) trivial)) rfl (backP (bC false) rfl) (backS rfl (BackB.same (fun _ _ _ _=>rfl) trivial)) (trivial) (hfr) ?_
           refine vA ?_
           refine aB ?_))
       refine⟨(c+1,st1+1),⟨hcl,⟨by dsimp only;omega,by dsimp only;omega⟩,by dsimp only;rw[hr'];exact hinv⟩,Wk.mkL [] rfl rfl rfl rfl rfl ?_ ?_,by dsimp only;omega⟩
       ·repeat (first|exact trivial|refine⟨⟨_,rfl,by first|exact LeA.c (LeC.ptB _ _ _ _ rfl)|exact LeA.c (LeC.owB _ rfl)|exact leT⟩,?_⟩)
       ·exact⟨
        HeapOk.lentC rfl rfl ⟨LeC.refl _ rfl,LeC.refl _ rfl,LeC.refl _ rfl,LeC.refl _ rfl,LeC.refl _ rfl,LeC.owB 1001 rfl,LeC.int rfl,trivial⟩ rfl,HeapOk.lentMo rfl rfl (fun _ _ h=>h)
        ,HeapOk.lentRow rfl rfl (fun i _=>cell1 ⟨rfl,rfl⟩),trivial⟩
     | true=>
       have hgo:=hih (st1+1) (c:Int) ⟨by omega,by omega⟩ (hpk c hcl)
       have hso:=fromV_st (p:=p) m ((ch)++ [(c:Int)]) (st1+1) ⟨by omega,by omega⟩
       have hto:=tryV_out (rec:=fromV p m) (r:=r) hov hf
       have htg:=tryV_go (rec:=fromV p m) (r:=r) hov hf
       generalize fromV p m ((ch)++ [(c:Int)]) (st1+1)=o at hgo hso hto htg
       obtain⟨ol,oe,os⟩:=o
       dsimp only at hgo hto htg
       obtain⟨hso1,hso2⟩:=hso
       dsimp only at hso1 hso2
       repeat (first
        |refine vB [4,5,6,7] ?_
        | (refine rG 9 ?_
           (iterate 3 refine vA ?_)
           refine AList.callG [1000,1001,1002] [] [srB p 1001 (st1+1),knB p,rowC ch] [srB p 1001 (st1+1),knB p,rowC ch] [] [srB p 1001 (st1+1),knB p,rowC ch] [] rfl rfl FnV.func rfl Try.func46 rfl (by kernel_rfl) (lendS rfl rfl rfl rfl (LendOk2.row rfl h0 (fun i _=>cell1 ⟨rfl,rfl⟩) trivial)) rfl (backP (bC true) rfl) (backS rfl (BackB.same (fun _ _ _ _=>rfl) trivial)) (trivial) (hfr) ?_
           refine vA ?_
           refine aB ?_))
       refine AWp.text ?_
       refine AText.split 4 ?_
       (iterate 4 refine vA ?_)
       refine aB ?_
       refine AText.appCallG tyOk [1000,1001] [] [srB p 1001 (st1+1),knB p] rfl rfl rfl rfl rfl rfl rfl rfl rfl (.inr ⟨1002,rfl,rfl,rfl,by decide⟩) (fun _ _ _ _=>rfl) (fun k hk j hj=>by first|rfl|(obtain rfl:k=0:=Nat.lt_one_iff.mp hk;obtain rfl:j=0:=Nat.lt_one_iff.mp hj;rfl)) (by omega) (by omega) (by dsimp only;omega) .func rfl Try.func39 rfl (by kernel_rfl) (lendS rfl rfl rfl rfl trivial) rfl (hgo) ?_
       rintro _ _ _ ⟨rfl,rfl,rfl⟩
       refine⟨_,[srB p 1001 os,knB p],[],backT2 (lsI ol) (iC oe) rfl rfl,backS rfl (BackB.same (fun k hk j hj=>(chI_snoc (ch) c k hk j hj).2) trivial),trivial,rfl,?_⟩
       refine AText.all ?_
       (iterate 5 refine vA ?_)
       refine aB ?_
       by_cases he:oe=60
       ·rw[htg he]at hinv
        have hos:=hso2 he
        refine vB [11,13] ?_
        refine⟨(c+1,os),⟨hcl,⟨hso1,hos⟩,by dsimp only;rw[hr'];exact hinv⟩,Wk.mkL [] rfl rfl rfl rfl rfl ?_ ?_,by dsimp only;omega⟩
        ·repeat (first|exact trivial|refine⟨⟨_,rfl,by first|exact LeA.c (LeC.ptB _ _ _ _ rfl)|exact LeA.c (LeC.owB _ rfl)|exact leT⟩,?_⟩)
        ·exact⟨
         HeapOk.lentC rfl rfl ⟨LeC.refl _ rfl,LeC.refl _ rfl,LeC.refl _ rfl,LeC.refl _ rfl,LeC.refl _ rfl,LeC.owB 1001 rfl,LeC.int rfl,trivial⟩ rfl,HeapOk.lentMo rfl rfl (fun _ _ h=>h)
         ,HeapOk.lentRow rfl rfl (fun i _=>cell1 ⟨rfl,rfl⟩),trivial⟩
       ·rw[hto he]at hinv
        subst hinv
        refine vB [11,12] ?_
        refine⟨mkL 65 3 [(4,.c (lsI (ol))),(5,.c (iC (oe)))] [(1000,srB p 1001 (os)),(1001,knB p),(1002,⟨true,ch.length,1,3,F⟩)] [],[],_,[srB p 1001 (os),knB p,⟨true,ch.length,1,3,F⟩],[],⟨rfl,rfl,rfl⟩,rfl,Wk.mkL [] rfl rfl rfl rfl rfl ?_ ?_,rfl,rfl,GRets.two (x:=.c _) (y:=.c _) (GRes.tmp rfl) (GRes.tmp rfl)⟩
        ·exact allT
        ·exact⟨
         HeapOk.lentC rfl rfl ⟨LeC.refl _ rfl,LeC.refl _ rfl,LeC.refl _ rfl,LeC.refl _ rfl,LeC.refl _ rfl,LeC.owB 1001 rfl,LeC.int rfl,trivial⟩ rfl,HeapOk.lentMo rfl rfl (fun _ _ h=>h)
         ,HeapOk.lentRow rfl rfl (fun k hk j hj=>⟨(hF k hk j hj).symm,rfl⟩),trivial⟩
   ·have hcl':¬(c:Int)<L.length:=by omega
    obtain rfl:c=L.length:=by omega
    rw[Nat.sub_self]at hinv
    replace hinv:([],60,st1)=V:=hinv
    subst hinv
    refine vB [4,14] ?_
    refine⟨mkL 65 3 [(4,.c (lsI ([]))),(5,.c (iC (60)))] [(1000,srB p 1001 (st1)),(1001,knB p),(1002,⟨true,ch.length,1,3,F⟩)] [],[],_,[srB p 1001 (st1),knB p,⟨true,ch.length,1,3,F⟩],[],⟨rfl,rfl,rfl⟩,rfl,Wk.mkL [] rfl rfl rfl rfl rfl ?_ ?_,rfl,rfl,GRets.two (x:=.c _) (y:=.c _) (GRes.tmp rfl) (GRes.tmp rfl)⟩
    ·exact allT
    ·exact⟨
     HeapOk.lentC rfl rfl ⟨LeC.refl _ rfl,LeC.refl _ rfl,LeC.refl _ rfl,LeC.refl _ rfl,LeC.refl _ rfl,LeC.owB 1001 rfl,LeC.int rfl,trivial⟩ rfl,HeapOk.lentMo rfl rfl (fun _ _ h=>h)
     ,HeapOk.lentRow rfl rfl (fun k hk j hj=>⟨(hF k hk j hj).symm,rfl⟩),trivial⟩
set_option maxRecDepth 100000 in
theorem from_N(p:Pb)(hp:p.fit)(st:Int)(hst:0≤st∧st≤20000):
 GCalls Try.prog 39 [.c (.pt 1000 7 0 0),.c (.p (.slice none 0 0))] [srB p 1001 st,knB p] (.tu [.c (lsI (fromV p p.C.length [] st).1),.c (iC (fromV p p.C.length [] st).2.1)]) [srB p 1001 (fromV p p.C.length [] st).2.2,knB p] []:=by
 obtain⟨M,hM⟩:∃M,p.C.length=M:=⟨_,rfl⟩
 rw[hM]
 cases M with
 | zero=>
   have hlen:(0:Int)=p.C.length:=by omega
   show GCalls _ _ _ _ (.tu [.c (lsI []),.c (iC 0)]) [srB p 1001 st,knB p] []
   refine ge_at Try.func39 rfl rfl Try.ntmps39 rfl ?_
   repeat (first
    |refine vB [0,1] ?_
    | (refine rG 2 ?_
       (iterate 2 refine vA ?_)
       refine AList.appE tyOk rfl rfl rfl rfl rfl rfl rfl rfl rfl rfl oM oM ?_
       (iterate 2 refine vA ?_)
       refine aB ?_))
   refine⟨mkL 65 2 [(4,.c (lsI [])),(5,.c (iC 0))] [(1000,srB p 1001 st),(1001,knB p)] [],[],_,[srB p 1001 st,knB p],[],⟨rfl,rfl,rfl⟩,rfl,Wk.mkL [] rfl rfl rfl rfl rfl ?_ ?_,rfl,rfl,GRets.two (x:=.c _) (y:=.c _) (GRes.tmp rfl) (GRes.tmp rfl)⟩
   ·exact⟨⟨_,rfl,.c (LeC.fz rfl rfl rfl (fun i hi=>absurd hi (Nat.not_lt_zero _)))⟩,⟨_,rfl,LeA.int rfl⟩,trivial⟩
   ·exact⟨
    HeapOk.lentC rfl rfl ⟨LeC.refl _ rfl,LeC.refl _ rfl,LeC.refl _ rfl,LeC.refl _ rfl,LeC.refl _ rfl,LeC.owB 1001 rfl,LeC.int rfl,trivial⟩ rfl,HeapOk.lentMo rfl rfl (fun _ _ h=>h)
    ,trivial⟩
 | succ m=>
   have hch:ChOk p []:=fun k hk=>absurd hk (Nat.not_lt_zero _)
   have hlt:([]:List Int).length<p.C.length:=by rw[hM];exact Nat.succ_pos _
   have hlt':¬(0:Int)=p.C.length:=by omega
   have hfree:=fun st c h1=>(sfree_A p hp.ok hp.t st ([]:List Int).length (fI []) c (by decide) h1 hch).cv (args':= [.c (.pt 1000 7 0 0),.c (.p (.slice none 0 0)),.c (iC c)]) ⟨.c (Cv.refl _),.c Cv.nil,.c (Cv.refl _),trivial⟩
   have hih:=fun st c hst h1=>from_R p hp m ([]++ [c]) st (appF (iF (fI [])) ([]:List Int).length (sF [iC c] 1)) (by simp;omega) (by simp) (ChOk.snoc hch h1) hst (fun k hk j hj=>(chI_snoc [] c k (by simpa using hk) j hj).1)
   refine ge_at Try.func39 rfl rfl Try.ntmps39 rfl ?_
   refine vB [0] ?_
   refine AWp.weak (S':=
    mkL 65 2 [(0,.c (.pt 1000 7 0 0)),(1,.c (.p (.slice none 0 0)))] [(1000,srB p 1001 (st)),(1001,knB p)] []
    ) (Wk.mkL [] rfl rfl rfl rfl rfl ?_ ?_) ?_
   ·repeat (first|exact trivial|refine⟨⟨_,rfl,by first|exact LeA.c (LeC.ptB _ _ _ _ rfl)|exact LeA.c (LeC.owB _ rfl)|exact leT⟩,?_⟩)
   ·exact⟨
    HeapOk.lentC rfl rfl ⟨LeC.refl _ rfl,LeC.refl _ rfl,LeC.refl _ rfl,LeC.refl _ rfl,LeC.refl _ rfl,LeC.owB 1001 rfl,LeC.int rfl,trivial⟩ rfl,HeapOk.lentMo rfl rfl (fun _ _ h=>h)
    ,trivial⟩
   obtain⟨L,hL⟩:∃L,p.C.getD ([]:List Int).length []=L:=⟨_,rfl⟩
   have hLl:L.length≤32:=by rw[←hL];exact hp.l _ (getD_mem28 hlt)
   have hcF:chF p.C ([]:List Int).length 0=lsB L:=by rw[←hL]
   have hcl:=hp.c
   have hpk:=fun c (h:c<L.length)=>hp.pk hlt (c:=c) (by rw[hL];exact h)
   obtain⟨V,hV⟩:∃V,fromV p (m+1) ([]:List Int) st=V:=⟨_,rfl⟩
   rw[hV]
   replace hV:tryV (fromV p m) p ([]:List Int) L.length 0 st=V:=by rw[←hL];exact hV
   repeat (first
    |refine vB [1] ?_
    | (refine rG 3 ?_
       (iterate 7 refine vA ?_)
       refine qr8eo2 (aP (k:=0) tyOk) ?_
       refine AList.load1lE tyOk (hcF) rfl rfl rfl rfl rfl oM ?_
       (iterate 2 refine vA ?_)
       refine aB ?_))
   refine AWp.round (fun s:Nat×Int=>
    mkL 65 2 [(0,.c (.pt 1000 7 0 0)),(1,.c (.p (.slice none 0 0))),(30,.c (iC L.length)),(31,.c (iC s.1))] [(1000,srB p 1001 (s.2)),(1001,knB p)] []
    ) (fun s=>s.1≤L.length∧(0≤s.2∧s.2≤20000)∧tryV (fromV p m) p ([]:List Int) (L.length-s.1) s.1 s.2=V) (fun s=>L.length-s.1) (0,st) ⟨Nat.zero_le _,hst,hV⟩ ?_ (fun s hs=> ?_)
   ·refine Wk.mkL [] rfl rfl rfl rfl rfl ?_ ?_
    ·repeat (first|exact trivial|refine⟨⟨_,rfl,by first|exact LeA.c (LeC.ptB _ _ _ _ rfl)|exact LeA.c (LeC.owB _ rfl)|exact leT⟩,?_⟩)
    ·exact⟨
     HeapOk.lentC rfl rfl ⟨LeC.refl _ rfl,LeC.refl _ rfl,LeC.refl _ rfl,LeC.refl _ rfl,LeC.refl _ rfl,LeC.owB 1001 rfl,LeC.int rfl,trivial⟩ rfl,HeapOk.lentMo rfl rfl (fun _ _ h=>h)
     ,trivial⟩
   obtain⟨c,st1⟩:=s
   obtain⟨hc,hst1,hinv⟩:=hs
   dsimp only at hc hst1 hinv⊢
   by_cases hcl:c<L.length
   ·have hcl':(c:Int)<L.length:=by omega
    obtain⟨r,hr⟩:∃r,L.length-c=r+1:=⟨L.length-c-1,by omega⟩
    have hr':L.length-(c+1)=r:=by omega
    rw[hr]at hinv
    by_cases hov:20000<st1+1
    ·have hov':st1+1>20000:=hov
     rw[tryV_over hov]at hinv
     subst hinv
     refine vB [4,5,6,7,8] ?_
     refine⟨mkL 65 2 [(4,.c (lsI ([]))),(5,.c (iC (61)))] [(1000,srB p 1001 (st1+1)),(1001,knB p)] [],[],_,[srB p 1001 (st1+1),knB p],[],⟨rfl,rfl,rfl⟩,rfl,Wk.mkL [] rfl rfl rfl rfl rfl ?_ ?_,rfl,rfl,GRets.two (x:=.c _) (y:=.c _) (GRes.tmp rfl) (GRes.tmp rfl)⟩
     ·exact allT
     ·exact⟨
      HeapOk.lentC rfl rfl ⟨LeC.refl _ rfl,LeC.refl _ rfl,LeC.refl _ rfl,LeC.refl _ rfl,LeC.refl _ rfl,LeC.owB 1001 rfl,LeC.int rfl,trivial⟩ rfl,HeapOk.lentMo rfl rfl (fun _ _ h=>h)
      ,trivial⟩
    ·have hov':¬st1+1>20000:=hov
     have hfr:=hfree (st1+1) (c:Int) (hpk c hcl)
     obtain⟨f,hf⟩:∃f,freeV p ([]:List Int).length (fI ([]:List Int)) c=f:=⟨_,rfl⟩
     rw[hf]at hfr
     cases f with
     | false=>
       rw[tryV_skip hov hf]at hinv
       repeat (first
        |refine vB [4,5,6,7,13] ?_
        | (refine rG 9 ?_
           (iterate 3 refine vA ?_)
           refine AList.callG [1000,1001] [] [srB p 1001 (st1+1),knB p] [srB p 1001 (st1+1),knB p] [] [srB p 1001 (st1+1),knB p] [] rfl rfl FnV.func rfl Try.func46 rfl (by kernel_rfl) (lendS rfl rfl rfl rfl trivial) rfl (backP (bC false) rfl) (backS rfl trivial) (trivial) (hfr) ?_
           refine vA ?_
           refine aB ?_))
       refine⟨(c+1,st1+1),⟨hcl,⟨by dsimp only;omega,by dsimp only;omega⟩,by dsimp only;rw[hr'];exact hinv⟩,Wk.mkL [] rfl rfl rfl rfl rfl ?_ ?_,by dsimp only;omega⟩
       ·repeat (first|exact trivial|refine⟨⟨_,rfl,by first|exact LeA.c (LeC.ptB _ _ _ _ rfl)|exact LeA.c (LeC.owB _ rfl)|exact leT⟩,?_⟩)
       ·exact⟨
        HeapOk.lentC rfl rfl ⟨LeC.refl _ rfl,LeC.refl _ rfl,LeC.refl _ rfl,LeC.refl _ rfl,LeC.refl _ rfl,LeC.owB 1001 rfl,LeC.int rfl,trivial⟩ rfl,HeapOk.lentMo rfl rfl (fun _ _ h=>h)
        ,trivial⟩
     | true=>
       have hgo:=hih (st1+1) (c:Int) ⟨by omega,by omega⟩ (hpk c hcl)
       have hso:=fromV_st (p:=p) m (([]:List Int)++ [(c:Int)]) (st1+1) ⟨by omega,by omega⟩
       have hto:=tryV_out (rec:=fromV p m) (r:=r) hov hf
       have htg:=tryV_go (rec:=fromV p m) (r:=r) hov hf
       generalize fromV p m (([]:List Int)++ [(c:Int)]) (st1+1)=o at hgo hso hto htg
       obtain⟨ol,oe,os⟩:=o
       dsimp only at hgo hto htg
       obtain⟨hso1,hso2⟩:=hso
       dsimp only at hso1 hso2
       repeat (first
        |refine vB [4,5,6,7] ?_
        | (refine rG 9 ?_
           (iterate 3 refine vA ?_)
           refine AList.callG [1000,1001] [] [srB p 1001 (st1+1),knB p] [srB p 1001 (st1+1),knB p] [] [srB p 1001 (st1+1),knB p] [] rfl rfl FnV.func rfl Try.func46 rfl (by kernel_rfl) (lendS rfl rfl rfl rfl trivial) rfl (backP (bC true) rfl) (backS rfl trivial) (trivial) (hfr) ?_
           refine vA ?_
           refine aB ?_))
       refine AWp.text ?_
       refine AText.split 4 ?_
       (iterate 4 refine vA ?_)
       refine aB ?_
       refine AText.appCallG tyOk [1000,1001] [] [srB p 1001 (st1+1),knB p] rfl rfl rfl rfl rfl rfl rfl rfl rfl (.inl ⟨rfl,rfl,rfl⟩) (fun _ _ _ _=>rfl) (fun k hk j hj=>by first|rfl|(obtain rfl:k=0:=Nat.lt_one_iff.mp hk;obtain rfl:j=0:=Nat.lt_one_iff.mp hj;rfl)) (by omega) (by omega) (by dsimp only;omega) .func rfl Try.func39 rfl (by kernel_rfl) (lendS rfl rfl rfl rfl trivial) rfl (hgo) ?_
       rintro _ _ _ ⟨rfl,rfl,rfl⟩
       refine⟨_,[srB p 1001 os,knB p],[],backT2 (lsI ol) (iC oe) rfl rfl,backS rfl (BackB.same (fun k hk j hj=>(chI_snoc ([]:List Int) c k hk j hj).2) trivial),trivial,rfl,?_⟩
       refine AText.all ?_
       (iterate 5 refine vA ?_)
       refine aB ?_
       by_cases he:oe=60
       ·rw[htg he]at hinv
        have hos:=hso2 he
        refine vB [11,13] ?_
        refine⟨(c+1,os),⟨hcl,⟨hso1,hos⟩,by dsimp only;rw[hr'];exact hinv⟩,Wk.mkL [] rfl rfl rfl rfl rfl ?_ ?_,by dsimp only;omega⟩
        ·repeat (first|exact trivial|refine⟨⟨_,rfl,by first|exact LeA.c (LeC.ptB _ _ _ _ rfl)|exact LeA.c (LeC.owB _ rfl)|exact leT⟩,?_⟩)
        ·exact⟨
         HeapOk.lentC rfl rfl ⟨LeC.refl _ rfl,LeC.refl _ rfl,LeC.refl _ rfl,LeC.refl _ rfl,LeC.refl _ rfl,LeC.owB 1001 rfl,LeC.int rfl,trivial⟩ rfl,HeapOk.lentMo rfl rfl (fun _ _ h=>h)
         ,trivial⟩
       ·rw[hto he]at hinv
        subst hinv
        refine vB [11,12] ?_
        refine⟨mkL 65 2 [(4,.c (lsI (ol))),(5,.c (iC (oe)))] [(1000,srB p 1001 (os)),(1001,knB p)] [],[],_,[srB p 1001 (os),knB p],[],⟨rfl,rfl,rfl⟩,rfl,Wk.mkL [] rfl rfl rfl rfl rfl ?_ ?_,rfl,rfl,GRets.two (x:=.c _) (y:=.c _) (GRes.tmp rfl) (GRes.tmp rfl)⟩
        ·exact allT
        ·exact⟨
         HeapOk.lentC rfl rfl ⟨LeC.refl _ rfl,LeC.refl _ rfl,LeC.refl _ rfl,LeC.refl _ rfl,LeC.refl _ rfl,LeC.owB 1001 rfl,LeC.int rfl,trivial⟩ rfl,HeapOk.lentMo rfl rfl (fun _ _ h=>h)
         ,trivial⟩
   ·have hcl':¬(c:Int)<L.length:=by omega
    obtain rfl:c=L.length:=by omega
    rw[Nat.sub_self]at hinv
    replace hinv:([],60,st1)=V:=hinv
    subst hinv
    refine vB [4,14] ?_
    refine⟨mkL 65 2 [(4,.c (lsI ([]))),(5,.c (iC (60)))] [(1000,srB p 1001 (st1)),(1001,knB p)] [],[],_,[srB p 1001 (st1),knB p],[],⟨rfl,rfl,rfl⟩,rfl,Wk.mkL [] rfl rfl rfl rfl rfl ?_ ?_,rfl,rfl,GRets.two (x:=.c _) (y:=.c _) (GRes.tmp rfl) (GRes.tmp rfl)⟩
    ·exact allT
    ·exact⟨
     HeapOk.lentC rfl rfl ⟨LeC.refl _ rfl,LeC.refl _ rfl,LeC.refl _ rfl,LeC.refl _ rfl,LeC.refl _ rfl,LeC.owB 1001 rfl,LeC.int rfl,trivial⟩ rfl,HeapOk.lentMo rfl rfl (fun _ _ h=>h)
     ,trivial⟩
theorem chkP_fit{p:Pb}(hp:p.ok)(h:chkP p=0):p.fit:=by
 unfold chkP at h
 by_cases h1:4<p.R.length∨200<p.C.length∨200<p.F.length
 ·rw[if_pos h1]at h;cases h
 ·rw [if_neg h1]at h
  cases h2:p.C.any (fun l=>decide (32<l.length))with
  |true=>rw[h2,if_pos rfl]at h;cases h
  | false=>
    rw[h2,if_neg (by simp)]at h
    by_cases h3:rdsE p.R=0
    ·rw[if_pos h3]at h
     by_cases h4:p.O.length=p.C.length∧p.T.length=p.F.length
     ·refine⟨hp,h4.2,h4.1,by omega,by omega,fun l hl=> ?_⟩
      rw[List.any_eq_false]at h2
      have:=h2 l hl
      simp at this
      exact this
     ·rw[if_neg h4]at h;cases h
    ·rw[if_neg h3]at h;exact absurd h h3
def stepOk(p:Pb)(f:Nat→Int)(k:Nat):Bool:=decide (0≤f k∧f k<(p.C.getD k []).length) && freeV p k f (f k)
theorem stepOk_iff{p:Pb}{f:Nat→Int}{k:Nat}:stepOk p f k=true↔(0≤f k∧f k<(p.C.getD k []).length)∧freeV p k f (f k)=true:=by
 unfold stepOk
 simp
def solveV(p:Pb):List Int×Int:=if chkP p=0 then ((fromV p p.C.length [] 0).1,(fromV p p.C.length [] 0).2.1)else ([],chkP p)
theorem PkOk.of{p:Pb}(h:p.fit){k:Nat}{c:Int}(hk:k<p.C.length)(hc:0≤c∧c<(p.C.getD k []).length):PkOk p k c:=by
 obtain⟨j,rfl⟩:=Int.eq_ofNat_of_zero_le hc.1
 exact h.pk hk (by omega)
set_option maxRecDepth 100000 in
theorem Solve28_A(p:Pb)(hp:p.ok):ACalls Try.prog 14 [.ag (pbC p)] (.tu [.c (lsI (solveV p).1),.c (iC (solveV p).2)]):=by
 have hC:=Check28_A p hp
 unfold solveV
 obtain⟨e,he⟩:∃e,chkP p=e:=⟨_,rfl⟩
 rw[he]at hC⊢
 by_cases h0:e=0
 ·subst h0
  have hfit:=chkP_fit hp he
  have hfr:=from_N p hfit 0 ⟨by decide,by decide⟩
  rw[if_pos rfl]
  generalize fromV p p.C.length [] 0=o at *
  obtain⟨ol,oe,os⟩:=o
  refine acalls_at Try.func14 rfl rfl Try.ntmps14 rfl ?_
  repeat (first
   |refine vB [0,2] ?_
   | (refine rG 1 ?_
      refine vA ?_
      refine aH rfl rfl rfl rfl Try.func30 rfl (by kernel_rfl) (hC) ?_
      refine vA ?_
      refine aB ?_)
   | (refine rG 4 ?_
      refine vA ?_
      refine AList.makeMap ((knK p)) (KM.empty) rfl rfl rfl ?_
      (iterate 3 refine vA ?_)
      refine aB ?_)
   | (refine rG 5 ?_
      refine vA ?_
      refine AList.callG [14,12] [] [srB p 1001 0,knB p] [srB p 1001 os,knB p] [] [srB p 12 os,knB p] [] rfl rfl FnV.func rfl Try.func39 rfl (by kernel_rfl) (lendS rfl rfl rfl rfl trivial) rfl (backT2 (lsI ol) (iC oe) rfl rfl) (backS rfl trivial) (trivial) (hfr) ?_
      (iterate 4 refine vA ?_)
      refine aB ?_))
  refine⟨mkSt 19 [(2,.c (lsI (ol))),(3,.c (iC (oe)))] [] [],[],Wk.mk [] rfl rfl rfl ?_ trivial,rfl,rfl,ARets.two (x:=.c _) (y:=.c _) (ARes.tmp rfl rfl) (ARes.tmp rfl rfl)⟩
  exact allT
 ·rw [if_neg h0]
  refine acalls_at Try.func14 rfl rfl Try.ntmps14 rfl ?_
  repeat (first
   |refine vB [0,2,3] ?_
   | (refine rG 1 ?_
      refine vA ?_
      refine aH rfl rfl rfl rfl Try.func30 rfl (by kernel_rfl) (hC) ?_
      refine vA ?_
      refine aB ?_))
  refine⟨mkSt 19 [(2,.c (lsI ([]))),(3,.c (iC (e)))] [] [],[],Wk.mk [] rfl rfl rfl ?_ trivial,rfl,rfl,ARets.two (x:=.c _) (y:=.c _) (ARes.tmp rfl rfl) (ARes.tmp rfl rfl)⟩
  exact allT
end Go.Proofs.Ytpefnljgalpllaa
end
