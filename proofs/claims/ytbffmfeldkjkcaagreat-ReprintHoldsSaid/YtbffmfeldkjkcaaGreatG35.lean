/- Parts of the proof: AConv, A28za, A28zb, A28zd, A28zm, A28zn, A28zt. -/
import Derived.Test.YtbffmfeldkjkcaaGreatG34
import Derived.Test.YtbffmfeldkjkcaaGreatG32
set_option linter.unusedSimpArgs false
set_option linter.unusedVariables false
set_option maxHeartbeats 0
section
namespace Go.AV
open Go Go.RowKit Go.Flow
section
variable{P:Program}
theorem zFk{n sz:Nat}{F G:Nat→Nat→CV}(h:∀k,k<n→∀j,j<sz→∀(O:Nat→Prop) (w:World) (u:Value),RepI O w (F k j) u→RepI O w (G k j) u):Cv (.ls n sz F) (.ls n sz G):=fun σ O w u hu=>by
 obtain⟨h1,A,cap,e,hcap,h2⟩:=hu
 exact⟨h1,A,cap,e,hcap,fun k hk j hj=>let ⟨ad,v,a1,a2,a3,a4,a5⟩:=h2 k hk j hj;⟨ad,v,a1,a2,a3,a4,h k hk j hj O w v a5⟩⟩
end
end Go.AV
end
section
namespace Go.Proofs.YtbffmfeldkjkcaaGreat
open Go.RowKit Go.Flow Go.AV Go.Plain
abbrev bsA:ByteArray:=⟨#[35,46,46,46]⟩
abbrev bsB:ByteArray:=⟨#[46,35,46,46]⟩
abbrev bsC:ByteArray:=⟨#[46,46,35,46]⟩
abbrev zL5:List (List Bp):= [[rwB bsA,rwB bsB],[rwB bsA,rwB bsC]]
abbrev pbO(O:List Bg):Pb:=⟨[],zL5,[],O,[]⟩
theorem zRI:zEg []:=fun _ h=>by cases h
theorem zCj:∀l:List CV,LeL Cv l l
 | []=>trivial
 |x::l=>⟨Cv.refl x,zCj l⟩
theorem fzP{S:St}{O:List Bg}(h:S.h 150=some (bgB O)):LeL (FzC S [150]) [lsR [],lsC zL5,lsB [],.ow 150,lsG []] (pbC (pbO O)):=
 ⟨.inl ⟨rfl,rfl⟩,.inl ⟨rfl,rfl⟩,.inl ⟨rfl,rfl⟩,.inr ⟨150,O.length,4,_,_,_,rfl,rfl,List.mem_singleton.2 rfl,h,fun i _ j _=>⟨rfl,zL zU _ i j⟩⟩,.inl ⟨rfl,rfl⟩,trivial⟩
def BpBd(B:Nat)(b:Bp):Prop:=(-(B:Int)≤b.W∧b.W≤B)∧b.n≤B
theorem BpBd.mono{A B:Nat}(h:A≤B){b:Bp}(hb:BpBd A b):BpBd B b:=⟨by have:=hb.1;omega,by have:=hb.2;omega⟩
structure Pb.bd(p:Pb)(B:Nat):Prop where
 R:zEg p.R
 lR:p.R.length≤B
 lC:p.C.length≤B
 lF:p.F.length≤B
 lO:p.O.length≤B
 lT:p.T.length≤B
 C:∀l∈p.C,l.length≤B∧∀b∈l,BpBd B b
 F:∀b∈p.F,BpBd B b
theorem Pb.bd.ok{p:Pb}{B:Nat}(h:p.bd B)(hB:B≤1000000):p.ok:=by
 obtain⟨h1,h2,h3,h4,h5,h6,h7,h8⟩:=h
 exact⟨h1,by omega,by omega,by omega,by omega,by omega,fun l hl=>by have:=(h7 l hl).1;omega⟩
theorem Pb.bd.mono{p:Pb}{A B:Nat}(h:p.bd A)(hB:A≤B):p.bd B:=by
 obtain⟨h1,h2,h3,h4,h5,h6,h7,h8⟩:=h
 exact⟨h1,by omega,by omega,by omega,by omega,by omega,fun l hl=>⟨by have:=(h7 l hl).1;omega,fun b hb=>((h7 l hl).2 b hb).mono hB⟩,fun b hb=>(h8 b hb).mono hB⟩
abbrev pbZ:Pb:=⟨[],[],[],[],[]⟩
theorem Less.of{p q:Pb}{m:Nat}{f:Nat→Int}(hC:q.C=p.C)(R:∀r∈rdL q.R,r∈rdL p.R)(F:∀k,k<q.F.length→k<p.F.length∧q.F.getD k bpZ=p.F.getD k bpZ∧Bg.le (q.T.getD k bgZ) (p.T.getD k bgZ))(O:∀k,k<m→Bg.le (q.O.getD k bgZ) (p.O.getD k bgZ)):Less p q m f:=
 ⟨R,fun k _ _ h=>by rw[hC];exact⟨h,rfl⟩,F,O⟩
def zPE(a b c:Int)(x:Bg):Bg:=⟨x.lo+a,x.bl+b,x.sh,x.st+c⟩
def gK(O:List Bg)(a b c:Int)(k i:Nat):Bg:=if i<k then zPE a b c (O.getD i bgZ)else O.getD i bgZ
end Go.Proofs.YtbffmfeldkjkcaaGreat
end
