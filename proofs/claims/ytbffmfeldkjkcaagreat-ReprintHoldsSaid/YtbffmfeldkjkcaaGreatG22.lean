/- Parts of the proof: ACard, AOpn, A24ro. -/
import Derived.OpenShut
import Derived.Test.YtbffmfeldkjkcaaGreatG21
import Derived.ProofKit
import Derived.Deep.DeepHandedRow
set_option linter.unusedSimpArgs false
set_option linter.unusedVariables false
set_option maxHeartbeats 0
section
namespace Go.AV
open Go Go.RowKit Go.Flow
section
variable{σ:Nat→Option Value}{w:World}{n c:Nat}{A:Option Addr}
abbrev O0:Nat→Prop:=fun _=>False
end
open Go.WideShapes Go.ChangeShapes
section
variable{H:Type}{enc:TypeId×Value→H}{P:Program}{W:World}
theorem zSU{n:Int}(h:(Lit.int .i64 n).wf=true):-9223372036854775808≤n∧n≤9223372036854775807:=by
 have e1:IntKind.i64.min = -9223372036854775808:=by decide
 have e2:IntKind.i64.max=9223372036854775807:=by decide
 simp[Lit.wf]at h
 omega
theorem zJe{e:TypeId}{k:Nat}:∀{l:List (DataW H)} {d:DataW H},d∈l→k∈d.weights P e→k∈DataW.weightsAll P e l
 | x::r,d,hd,hk=>by
   unfold DataW.weightsAll
   rcases List.mem_cons.1 hd with h|h
   ·rw[h]at hk
    exact List.mem_append_left _ hk
   ·exact List.mem_append_right _ (zJe h hk)
end
end Go.AV
end
section
namespace Go.AV
open Go Go.RowKit Go.Flow Go.WideShapes Go.ChangeShapes
section
variable{H:Type}{enc:TypeId×Value→H}{P:Program}{W:World}{α β:Type}
def Opn(enc:TypeId×Value→H)(P:Program)(W:World)(t:TypeId)(c:α→List CV)(ok:α→Prop):Prop:=
 ∀(fuel:Nat) (cs:List Value) (d:DataW H) (ps:List MemPlace),DataW.trod enc P W 0 (fun _=>true) true fuel t cs=some (d,ps)→(∀k∈d.weights P t,k≤reachBytes)→∃a,ok a∧RepL (RepC (fun _=>none) O0 W) (c a) cs
theorem Opn.int{t:TypeId}{k:IntKind}(ht:P.underlying t=some (.int k)):Opn enc P W t (fun i:Int=> [.p (.int k i)]) (fun i=>(Lit.int k i).wf=true):=fun fuel cs d ps h _=>by
 obtain⟨n,rfl,-,hw⟩:=DataW.trod_int ht h
 exact⟨n,hw,⟨rfl,rfl⟩,trivial⟩
theorem Opn.bool{t:TypeId}(ht:P.underlying t=some .bool):Opn enc P W t (fun b:Bool=> [.p (.bool b)]) (fun _=>True):=fun fuel cs d ps h _=>by
 obtain⟨b,rfl,-⟩:=DataW.trod_bool ht h
 exact⟨b,trivial,⟨rfl,rfl⟩,trivial⟩
theorem Opn.mono{t:TypeId}{c:α→List CV}{ok ok':α→Prop}(h:Opn enc P W t c ok)(hk:∀a,ok a→ok' a):Opn enc P W t c ok':=fun fuel cs d ps h1 h2=>
 let ⟨a,g1,g2⟩:=h fuel cs d ps h1 h2
 ⟨a,hk a g1,g2⟩
theorem Opn.conv{t:TypeId}{c:α→List CV}{ok:α→Prop}{c':β→List CV}{ok':β→Prop}(h:Opn enc P W t c ok)(hk:∀a,ok a→∃b,ok' b∧∀cs,RepL (RepC (fun _=>none) O0 W) (c a) cs→RepL (RepC (fun _=>none) O0 W) (c' b) cs):Opn enc P W t c' ok':=fun fuel cs d ps h1 h2=>
 let ⟨a,g1,g2⟩:=h fuel cs d ps h1 h2
 let ⟨b,k1,k2⟩:=hk a g1
 ⟨b,k1,k2 cs g2⟩
theorem RepL.app{α:Type}{R:α→Value→Prop}:∀{l m:List α} {us vs:List Value},RepL R l us→RepL R m vs→RepL R (l++m) (us++vs)
 | [],_,[],_,_,h=>h
 |_::_,_,_::_,_,h1,h2=>⟨h1.1,RepL.app h1.2 h2⟩
 | [],_,_::_,_,h,_=>h.elim
 |_::_,_,[],_,h,_=>h.elim
theorem Opn.slice{t e:TypeId}{sz b:Nat}{c:α→List CV}{ok:α→Prop}(h:Opn enc P W e c ok)(z:α)(ht:P.underlying t=some (.slice e))(ce:P.cellsOf e=sz)(be:P.bytesOf e=b)(hc:∀a,(c a).length=sz)(hi:∀a,(c a).all zM=true):
 Opn enc P W t (fun L:List α=> [.ls L.length sz (zS c z L)]) (fun L=>L.length*b≤reachBytes∧∀a∈L,ok a):=fun fuel cs d ps h1 h2=>by
 subst ce be
 rcases DataW.trod_slice ht h1 with ⟨rfl,_⟩|⟨a,len,cap,elems,rest,m,_,rfl,hx,_,hl,_,hlen,hel,_,_⟩
 ·exact⟨[],⟨by simp,fun _ h=>by cases h⟩,zMW,trivial⟩
 ·obtain⟨rfl,-⟩:=Prod.mk.injEq .. ▸hx
  have hb:=h2 (((elems.map (·.1)).length+(rest.map (·.1)).length)*P.bytesOf e) (by simp only[DataW.weights,ht];exact List.mem_cons_self ..)
  have key:∀k,∃x:α,k<len→ok x∧∀j,j<P.cellsOf e→∃v,W.cell? (a.add (k*P.cellsOf e+j))=some v∧RepC (fun _=>none) O0 W ((c x).getD j .any) v:=fun k=>by
   by_cases hk:k<len
   ·have e1:=hel k hk
    rw[List.getElem?_eq_getElem (by omega)]at e1
    obtain⟨l,e2,e3⟩:=Option.bind_eq_some_iff.1 e1
    obtain⟨x,g1,g2⟩:=h m l (elems[k]'(by omega)).1 (elems[k]'(by omega)).2 e3 (fun q hq=>h2 q (by
     simp only[DataW.weights,ht]
     exact List.mem_cons_of_mem _ (List.mem_append_left _ (zJe (List.mem_map.2 ⟨_,List.getElem_mem (by omega),rfl⟩) hq))))
    refine⟨x,fun _=>⟨g1,fun j hj=> ?_⟩⟩
    obtain⟨-,s1,s2⟩:=World.cells?_some e2
    have s3:=s2 j hj;have hcl:=hc x
    obtain⟨v,f1,f2⟩:=g2.get (List.getElem?_eq_getElem (l:=c x) (i:=j) (by omega))
    rw[f1]at s3
    refine⟨v,?_,?_⟩
    ·rw[←Addr.add_add]
     exact s3
    ·rw[List.getD_eq_getElem?_getD,List.getElem?_eq_getElem (by omega)]
     exact f2
   ·exact⟨z,fun h=>absurd h hk⟩
  refine⟨(List.range len).map (fun k=>(key k).choose),⟨?_,fun x hx=> ?_⟩,⟨rfl,some a,cap,by simp,by simpa using hl,fun k hk j hj=> ?_⟩,trivial⟩
  ·simp only[List.length_map]at hb
   simp only[List.length_map,List.length_range]
   rw[Nat.add_mul]at hb;rw[←hlen]
   omega
  ·obtain⟨k,hk,rfl⟩:=List.mem_map.1 hx
   exact((key k).choose_spec (List.mem_range.1 hk)).1
  ·have hk':k<len:=by simpa using hk
   obtain⟨v,g1,g2⟩:=((key k).choose_spec hk').2 j hj
   refine⟨a,v,rfl,fun h=>h,g1,g2.1,?_⟩
   have:zS c z ((List.range len).map (fun k=>(key k).choose)) k j=(c (key k).choose).getD j .any:=by
    show(c (List.getD _ k z)).getD j .any=_
    congr 2
    rw[List.getD_eq_getElem?_getD,List.getElem?_map,List.getElem?_range hk']
    rfl
   rw[this];have hcl:=hc (key k).choose;have g3:=g2.2;have g4:zM ((c (key k).choose).getD j .any)=true:=by
    rw[List.getD_eq_getElem?_getD,List.getElem?_eq_getElem (by omega)];exact List.all_eq_true.1 (hi _) _ (List.getElem_mem _)
   generalize (c (key k).choose).getD j .any=q at g3 g4
   cases q with
   |pt=>cases g4
   |ow=>cases g4
   |fn=>cases g4
   |_=>exact g3
theorem Opn.slice1{t e:TypeId}{b:Nat}{x:α→CV}{ok:α→Prop}(h:Opn enc P W e (fun a=> [x a]) ok)(z:α)(ht:P.underlying t=some (.slice e))(ce:P.cellsOf e=1)(be:P.bytesOf e=b)(hi:∀a,zM (x a)=true):
 Opn enc P W t (fun L:List α=> [.ls L.length 1 (fun k _=>x (L.getD k z))]) (fun L=>L.length*b≤reachBytes∧∀a∈L,ok a):=
 (Opn.slice h z ht ce be (fun _=>rfl) (fun a=>by simp[hi a])).conv fun L hL=>⟨L,hL,fun cs hr=>by
   match cs,hr with
   | [u],hr=>
     refine⟨⟨hr.1.1,zEh (fun k _ j hj=> ?_) hr.1.2⟩,trivial⟩
     obtain rfl:j=0:=by omega
     rfl⟩
def OpnF(enc:TypeId×Value→H)(P:Program)(W:World)(fs:Array Field)(n i o:Nat)(c:α→List CV)(ok:α→Prop):Prop:=
 ∀ cs:List Value,cs.length=n→(∀(j:Nat) (f:Field),i≤j→fs[j]?=some f→∃(m:Nat) (d:DataW H) (ps:List MemPlace),DataW.trod enc P W 0 (fun _=>true) true m f.type ((cs.drop f.offset).take (P.cellsOf f.type))=some (d,ps)∧∀k∈d.weights P f.type,k≤reachBytes)→
   ∃a,ok a∧RepL (RepC (fun _=>none) O0 W) (c a) (cs.drop o)
theorem OpnF.nil{fs:Array Field}{n i:Nat}:OpnF enc P W fs n i n (fun _:Unit=> []) (fun _=>True):=fun cs hl _=>⟨(),trivial,by rw[List.drop_eq_nil_of_le (by omega)];trivial⟩
theorem OpnF.cons{fs:Array Field}{n i o sz:Nat}{T:TypeId}{c:α→List CV}{ok:α→Prop}{c':β→List CV}{ok':β→Prop}(h:Opn enc P W T c ok)(hf:fs[i]?.map (fun f=>(f.type,f.offset))=some (T,o))(hsz:P.cellsOf T=sz)(h':OpnF enc P W fs n (i+1) (o+sz) c' ok'):
 OpnF enc P W fs n i o (fun p:α×β=>c p.1++c' p.2) (fun p=>ok p.1∧ok' p.2):=fun cs hl hx=>by
 obtain⟨f,hf1,hf2⟩:=Option.map_eq_some_iff.1 hf
 obtain⟨rfl,rfl⟩:=Prod.mk.injEq .. ▸hf2
 obtain⟨m,d,ps,h1,h2⟩:=hx i f (Nat.le_refl _) hf1
 obtain⟨a,g1,g2⟩:=h m _ d ps h1 h2
 obtain⟨b,k1,k2⟩:=h' cs hl fun j f hj hf=>hx j f (by omega) hf
 refine⟨(a,b),⟨g1,k1⟩,?_⟩
 have:cs.drop f.offset=(cs.drop f.offset).take (P.cellsOf f.type)++cs.drop (f.offset+sz):=by
  rw[←hsz,←List.drop_drop,List.take_append_drop]
 rw[this];exact g2.app k2
theorem Opn.struct{t:TypeId}{fs:Array Field}{n:Nat}{c:α→List CV}{ok:α→Prop}(ht:P.underlying t=some (.struct fs))(hn:P.cellsOf t=n)(h:OpnF enc P W fs n 0 0 c ok):Opn enc P W t c ok:=fun fuel cs d ps h1 h2=>by
 obtain⟨xs,m,_,hx,hl,hlen,hel⟩:=DataW.trod_struct ht h1
 obtain⟨rfl,-⟩:=Prod.mk.injEq .. ▸hx
 have:=h cs (hl.trans hn) fun j f _ hf=>by
  have e:=hel j f hf;have hj:j<fs.size:=(Array.getElem?_eq_some_iff.1 hf).1;have hx':xs[j]?=some (xs[j]'(by omega)):=List.getElem?_eq_getElem (by omega);rw[hx']at e
  refine⟨m,(xs[j]'(by omega)).1,(xs[j]'(by omega)).2,e,fun k hk=>h2 k ?_⟩
  simp only[DataW.weights,ht]
  exact DataW.weights_mem_each (j:=j) (t:=f.type) (by simp[hf]) (by simp[hx']) k hk
 simpa using this
theorem Opn.array{t e:TypeId}{N sz:Nat}{c:α→List CV}{ok:α→Prop}(h:Opn enc P W e c ok)(ht:P.underlying t=some (.array N e))(ce:P.cellsOf e=sz)(ct:P.cellsOf t=N*sz):Opn enc P W t (fun L:List α=>L.flatMap c) (fun L=>L.length=N∧∀a∈L,ok a):=fun fuel cs d ps h1 h2=>by
 subst ce
 obtain⟨xs,m,_,hx,hl,hlen,hel⟩:=DataW.trod_array ht h1
 obtain⟨rfl,-⟩:=Prod.mk.injEq .. ▸hx
 rw[ct]at hl;have key:∀k,k≤N→∃L:List α,(L.length=N-k∧∀a∈L,ok a)∧RepL (RepC (fun _=>none) O0 W) (L.flatMap c) (cs.drop (k*P.cellsOf e)):=by
  intro k hk
  induction hd:N-k generalizing k with
  | zero=>
    obtain rfl:k=N:=by omega
    exact⟨[],⟨rfl,fun _ h=>by cases h⟩,by rw[List.drop_eq_nil_of_le (by omega)];trivial⟩
  | succ q ih=>
    have hk':k<N:=by omega
    have e1:=hel k hk';have hx':xs[k]?=some (xs[k]'(by omega)):=List.getElem?_eq_getElem (by omega);rw[hx']at e1
    obtain⟨a,g1,g2⟩:=h m _ _ _ e1 fun q hq=>h2 q (by
     simp only[DataW.weights,ht]
     exact zJe (List.mem_map.2 ⟨_,List.getElem_mem (by omega),rfl⟩) hq)
    obtain⟨L,⟨k1,k2⟩,k3⟩:=ih (k+1) (by omega) (by omega)
    refine⟨a::L,⟨by simp[k1],fun b hb=>by rcases List.mem_cons.1 hb with rfl|hb;exact g1;exact k2 b hb⟩,?_⟩
    have:cs.drop (k*P.cellsOf e)=(cs.drop (k*P.cellsOf e)).take (P.cellsOf e)++cs.drop ((k+1)*P.cellsOf e):=by
     rw[Nat.add_mul,Nat.one_mul,←List.drop_drop,List.take_append_drop]
    rw[this];exact g2.app k3
 obtain⟨L,h3,h4⟩:=key 0 (Nat.zero_le _)
 exact⟨L,h3,by simpa using h4⟩
end
end Go.AV
end
section
namespace Go.Proofs.YtbffmfeldkjkcaaGreat
open Go.ChangeShapes Go.WideShapes Go.ChangeAt Go.RowKit Go.Flow Go.AV
theorem zIk:Tryz.prog.cellsOf 3=1:=by kernel_rfl
theorem zGJ:Tryz.prog.cellsOf 23=1:=by kernel_rfl
theorem zPL:Tryz.prog.bytesOf 3=8:=by kernel_rfl
section
variable{H:Type}{enc:TypeId×Value→H}{W:World}
theorem opn_int:Opn enc Tryz.prog W 3 (fun i:Int=> [iC i]) (fun i=> -9223372036854775808≤i∧i≤9223372036854775807):=(Opn.int Tryz.underlying3).mono fun _ h=>zSU h
def Bg.ok(x:Bg):Prop:=(-9223372036854775808≤x.lo∧x.lo≤9223372036854775807)∧(-9223372036854775808≤x.bl∧x.bl≤9223372036854775807)∧(-9223372036854775808≤x.sh∧x.sh≤9223372036854775807)∧-9223372036854775808≤x.st∧x.st≤9223372036854775807
end
end Go.Proofs.YtbffmfeldkjkcaaGreat
end
