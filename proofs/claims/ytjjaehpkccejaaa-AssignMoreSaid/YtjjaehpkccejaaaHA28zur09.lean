/- Parts of the proof: ALd, A28zs. -/
import Derived.Test.YtjjaehpkccejaaaG17
import Derived.Test.YtjjaehpkccejaaaHA28zur01
import Derived.Test.YtjjaehpkccejaaaG08
import Derived.Test.YtjjaehpkccejaaaG07
import Derived.Shelf.Abstract
import Derived.Laws.Cover3
import Derived.RangeFuncNested
import Derived.Test.YtjjaehpkccejaaaG06
import Derived.Laws.StructEq
import Derived.Test.YtjjaehpkccejaaaG05
import Derived.Test.YtjjaehpkccejaaaG04
import Derived.Great.BuildSlice
import Derived.Test.YtjjaehpkccejaaaG03
import Derived.Test.YtjjaehpkccejaaaG02
import Derived.RangeFuncLeaves
import Derived.RangeFuncRecord
import Derived.Test.YtjjaehpkccejaaaG01
import Derived.Deep.AppendLies
import Derived.OrdersIn
import Derived.TacticsIn
import Derived.RangeFuncCalls
import Derived.Maps.AppendAt
import Derived.OwnWalk
import Derived.StillTail
import Derived.Below
import Derived.Deep.Draws
import Derived.WalkKit
import Derived.KernelRfl
import Derived.Test.YtjjaehpkccejaaaHA28zur08
import Derived.Test.YtjjaehpkccejaaaG35
import Derived.Test.YtjjaehpkccejaaaHA28zur07
import Derived.Test.YtjjaehpkccejaaaG36
import Derived.Test.YtjjaehpkccejaaaG34
import Derived.Test.YtjjaehpkccejaaaG32
import Derived.Test.YtjjaehpkccejaaaHA28zur06
import Derived.Test.YtjjaehpkccejaaaG33
import Derived.Test.YtjjaehpkccejaaaG15
import Derived.Test.YtjjaehpkccejaaaG25
import Derived.Test.YtjjaehpkccejaaaG27
import Derived.Test.YtjjaehpkccejaaaG19
import Derived.Test.YtjjaehpkccejaaaHA28zur03
import Derived.Test.YtjjaehpkccejaaaG20
import Derived.Test.YtjjaehpkccejaaaG10
import Derived.Test.YtjjaehpkccejaaaG31
import Derived.Test.YtjjaehpkccejaaaG26
import Derived.Laws.Pointers
import Derived.Test.YtjjaehpkccejaaaG09
import Derived.Test.YtjjaehpkccejaaaG21
import Derived.Test.YtjjaehpkccejaaaG22
import Derived.Test.YtjjaehpkccejaaaHA28zur04
import Derived.WideKeyMaps
import Derived.MapKept
import Derived.Carry
import Derived.Test.YtjjaehpkccejaaaProg
import Derived.Test.YtjjaehpkccejaaaG30
import Derived.Test.YtjjaehpkccejaaaG14
import Derived.Lib.Hide
import Derived.Deep.QuietTactic
import Derived.BigQuiet
import Derived.Deep.DrawnRows
import Derived.Test.YtjjaehpkccejaaaG13
import Derived.Test.YtjjaehpkccejaaaHA28zur02
import Derived.Test.YtjjaehpkccejaaaG18
import Derived.Test.YtjjaehpkccejaaaG29
import Derived.Scope
import Derived.DeepKeys4
import Derived.Test.YtjjaehpkccejaaaG28
import Derived.Test.YtjjaehpkccejaaaG16
import Derived.Test.YtjjaehpkccejaaaG24
import Derived.Test.YtjjaehpkccejaaaG12
import Derived.Test.YtjjaehpkccejaaaG11
set_option linter.unusedSimpArgs false
set_option linter.unusedVariables false
section
namespace Go.AV
open Go Go.RowKit Go.Flow
section
variable {P : Program} {tab : List (TypeId × TD)} {ops : Array Oper} {rest : List Oper} {acc : List (List Nat × List Nat)} {S : St} {Q : List (List Nat × List Nat) → St → Prop} {dst : Option Tmp} {ty : TypeId} {pos : String} {after : Array Edge} {guard : Option (Nat × Bool)}
theorem AList.load1F (T : tabOk P tab = true) {t : TypeId} {x : Operand} {id sz k j : Nat} {B : AB} {d : TD} {c : CV} (hw : S.wants ops { dst, op := .load t x, type := ty, pos, after, guard } = some true) (hd : dOk S.n dst = true)
 (hx : S.opd x = some (.c (.pt id sz k j))) (hh : S.h id = some B) (hs : B.sz = sz) (ht : assoc tab t = some d) (hk : isOne d.k = true) (hkn : k < B.n) (hj : j < B.sz) (hl : B.F k j = c)
 (hn : AList P ops rest (([id], []) :: acc) (S.eff dst ⟨.c c, [], []⟩) Q) : AList P ops ({ dst, op := .load t x, type := ty, pos, after, guard } :: rest) acc S Q := by
 subst hl
 exact aE T hw hd hx hh hs ht hk hkn hj hn
end
end Go.AV
end

section
namespace Go.Proofs.Ytjjaehpkccejaaa
open Go.RowKit Go.Flow Go.AV Go.Plain
abbrev chNw (p : Pb) : List AB := [rdB p.R, bpB p.F, bgB p.O, bgB p.T]
abbrev chRes (p : Pb) : AV := .ag [.ow 900, lsC p.C, .ow 901, .ow 902, .ow 903]
set_option maxHeartbeats 2000000 in
set_option maxRecDepth 100000 in
/-- .. with all lists of choices frozen. -/
theorem Copy_H (p : Pb) (hp : p.ok) : GCalls Try.prog 27 [.ag (pbC p)] [] (chRes p) [] (chNw p) := by
 obtain ⟨m, hm0⟩ : ∃ m, m = p.C.length := ⟨_, rfl⟩
 obtain ⟨hrd, lR, lC, lF', lO, lT, lc⟩ := hp
 refine ge_at Try.func27 rfl rfl Try.ntmps27 rfl ?_
 repeat (first
  | refine AWp.seq ?_
  | refine thenA_n ?_
  | refine AWp.block ?_
  | (refine rG 0 ?_
     refine qr5 aQ ?_
     refine qr5 (aM tyOk) ?_
     refine aB ?_)
  | (refine AWp.draw (id := 1) mixed ?_; refine qr7 (AList.emptySl tyOk) ?_; refine kD ?_; refine kE ?_; refine AList.appL0 tyOk rfl rfl rfl rfl rfl rfl rfl rfl rfl rfl oM oM ?_; refine qr7 (AList.emptySl tyOk) ?_; refine kD ?_; refine kE ?_; refine AList.appL0 tyOk rfl rfl rfl rfl rfl rfl rfl rfl rfl rfl oM oM ?_; refine qr7 (AList.emptySl tyOk) ?_; refine kD ?_; refine kE ?_; refine AList.appL0 tyOk rfl rfl rfl rfl rfl rfl rfl rfl rfl rfl oM oM ?_; refine qr7 (AList.emptySl tyOk) ?_; refine kD ?_; refine kE ?_; refine AList.appL0 tyOk rfl rfl rfl rfl rfl rfl rfl rfl rfl rfl oM oM ?_; refine qr8 (aX tyOk) ?_; refine qr5 (aM tyOk) ?_; refine kI ?_; refine aB ⟨by kernel_rfl, ?_⟩)
  | (refine rG 2 ?_
     refine kC ?_
     refine aB ?_))
 refine AWp.round (fun k : Nat =>
  mkSt 42 [(1, .c (.pt 1 5 0 0)), (2, .c (.pt 2 5 0 0)), (3, .c (.pt 3 5 0 0)), (4, .c (iC (k : Nat)))] [(1, ⟨false, 1, 5, 32, lF (pbC p)⟩), (2, ⟨false, 1, 5, 32, lF [nl8, nl8, nl8, nl8, nl8]⟩), (3, ⟨false, 1, 5, 32, lF [.ow 8, .ow 22, .ow 12, .ow 16, .ow 20]⟩), (8, rdB p.R), (12, bpB p.F), (16, bgB p.O), (20, bgB p.T), (22, chM p.C m 23 (k : Nat)), (23, bpB (cpL p.C m (k : Nat)))] [1, 2, 3, 8, 12, 16, 20, 22, 23]
  ) (fun k => k ≤ p.C.length) (fun k => p.C.length - k) 0 (Nat.zero_le _) ?_ (fun k hk => ?_)
 ·refine Wk.mk [(1, some 1), (2, some 2), (3, some 3), (8, some 8), (12, some 12), (16, some 16), (20, some 20), (22, none), (23, none)] rfl rfl rfl ?_ ?_
  ·exact allT
  ·exact ⟨hSm, hSm, HeapOk.box rfl rfl ⟨LeC.ow _ _ rfl, LeC.nil _ rfl, LeC.ow _ _ rfl, LeC.ow _ _ rfl, LeC.ow _ _ rfl, trivial⟩ rfl,
   hrF rdC_imm, hrF bpC_imm, hrF bgC_imm28, hrF bgC_imm28
   , HeapOk.nil rfl rfl, HeapOk.nil rfl (by unfold cpL; rw [if_neg (Nat.not_lt_zero _)]; rfl), trivial⟩
 by_cases hkl : k < p.C.length
 ·have hkl' : (k : Int) < p.C.length := by omega
  obtain ⟨L, hL⟩ : ∃ L, p.C.getD k [] = L := ⟨_, rfl⟩
  have hcF : chF p.C k 0 = lsB L := by rw [← hL]
  have hLl : L.length ≤ 1000000 := by rw [← hL]; exact lc _ (getD_mem28 hkl)
  repeat (first
   | refine AWp.seq ?_
   | refine thenA_n ?_
   | refine AWp.block ?_
   | refine AWp.skip ?_
   | refine inBlk_n ?_
   | refine AWp.condT rfl cnT ?_
   | (refine rG 3 ?_
      refine kA ?_
      refine kD ?_
      refine kE ?_
      refine qr5 (aO tyOk) ?_
      refine qr5t aK ?_
      refine aB ?_)
   | (refine rG 4 ?_
      refine kA ?_
      refine qr4w2 aL ?_
      refine kC ?_
      refine aB ?_)
   | (refine AWp.draw (id := 5) mixed ?_; refine kD ?_; refine kE ?_; refine qr7 (AList.emptySl tyOk) ?_; refine kD ?_; refine kE ?_; refine kA ?_; refine qr8eo2 (aP (k := k) tyOk) ?_; refine AList.load1lE tyOk (hcF) rfl rfl rfl rfl rfl oM ?_; refine AList.appL0 tyOk rfl rfl rfl rfl rfl rfl rfl rfl rfl rfl oM oM ?_; refine qr11 (AList.litOw tyOk) ?_; refine AList.appO tyOk rfl rfl rfl rfl rfl rfl rfl rfl rfl rfl rfl oM oM ?_; refine kD ?_; refine kI ?_; refine aB ⟨by kernel_rfl, ?_⟩))
  have hrow : ∀ (S : St) (ren : List (Nat × Option Nat)) (x : Nat), S.h 37 = some (bpB L) → (∀ i, i < k → i = m → assoc ren 23 = some (some 23)) → (if k = m then assoc ren 23 = some (some 37) else renNo ren 37 = true) →
   ∀ i, i < k + 1 → ∀ j, j < 1 → LeC S.h ren (appF (cpF p.C m 23) k (sF [.ow 37] 1) i j) (cpF p.C m 23 i j) := fun S ren x hh h1 h2 i hi j hj => by
   obtain rfl : j = 0 := Nat.lt_one_iff.mp hj
   by_cases hik : i < k
   ·rw [appF_lo hik]
    unfold cpF
    by_cases him : i = m
    ·rw [if_pos him]
     exact LeC.ow _ _ (h1 i hik him)
    ·rw [if_neg him]
     exact LeC.refl _ rfl
   ·obtain rfl : i = k := by omega
    rw [appF_hi (Nat.le_refl _), Nat.sub_self]
    unfold cpF
    by_cases him : i = m
    ·rw [if_pos him] at h2 ⊢
     exact LeC.ow _ _ h2
    ·rw [if_neg him] at h2 ⊢
     rw [hL]
     exact LeC.fz hh h2 rfl (fun i _ j _ => ⟨rfl, rowF_imm bpC_imm _ i j⟩)
  by_cases hkm : k = m
  ·have hl1 : cpL p.C m (k + 1) = L := by unfold cpL; rw [if_pos (by omega), ← hkm, hL]
   refine ⟨k + 1, hkl, ?_, by omega⟩
   rw [hl1]
   refine Wk.mk [(1, some 1), (2, some 2), (3, some 3), (8, some 8), (12, some 12), (16, some 16), (20, some 20), (22, some 39), (23, some 37)] rfl rfl rfl ?_ ?_
   ·exact allT
   ·exact ⟨hSm, hSm, HeapOk.box rfl rfl ⟨LeC.ow _ _ rfl, LeC.ow _ _ rfl, LeC.ow _ _ rfl, LeC.ow _ _ rfl, LeC.ow _ _ rfl, trivial⟩ rfl,
    hrF rdC_imm, hrF bpC_imm, hrF bgC_imm28, hrF bgC_imm28
    , .inr ⟨39, k + 1, _, .inl rfl, rfl, rfl, hrow _ _ 0 rfl (fun i h1 h2 => by omega) (by rw [if_pos hkm]; rfl)⟩, hrF bpC_imm, trivial⟩
  ·have hl1 : cpL p.C m (k + 1) = cpL p.C m k := by
    unfold cpL
    by_cases h : m < k
    ·rw [if_pos h, if_pos (by omega)]
    ·rw [if_neg h, if_neg (by omega)]
   refine ⟨k + 1, hkl, ?_, by omega⟩
   rw [hl1]
   refine Wk.mk [(1, some 1), (2, some 2), (3, some 3), (8, some 8), (12, some 12), (16, some 16), (20, some 20), (22, some 39), (23, some 23)] rfl rfl rfl ?_ ?_
   ·exact allT
   ·exact ⟨hSm, hSm, HeapOk.box rfl rfl ⟨LeC.ow _ _ rfl, LeC.ow _ _ rfl, LeC.ow _ _ rfl, LeC.ow _ _ rfl, LeC.ow _ _ rfl, trivial⟩ rfl,
    hrF rdC_imm, hrF bpC_imm, hrF bgC_imm28, hrF bgC_imm28
    , .inr ⟨39, k + 1, _, .inl rfl, rfl, rfl, hrow _ _ 0 rfl (fun i h1 h2 => rfl) (by rw [if_neg hkm]; rfl)⟩, hrF bpC_imm, trivial⟩
 have hkl' : ¬ (k : Int) < p.C.length := by omega
 obtain rfl : k = p.C.length := by omega
 repeat (first
  | refine AWp.seq ?_
  | refine thenA_n ?_
  | refine AWp.exit ?_
  | refine AWp.condF rfl cnF ?_
  | (refine rG 3 ?_
     refine kA ?_
     refine kD ?_
     refine kE ?_
     refine qr5 (aO tyOk) ?_
     refine qr5f aJ ?_
     refine aB ?_))
 refine AWp.weak (S' := mkSt 42 [(2, .c (.pt 2 5 0 0)), (3, .c (.pt 3 5 0 0))] [(2, ⟨false, 1, 5, 32, lF [nl8, nl8, nl8, nl8, nl8]⟩), (3, ⟨false, 1, 5, 32, lF [.ow 8, .ow 22, .ow 12, .ow 16, .ow 20]⟩), (8, rdB p.R), (12, bpB p.F), (16, bgB p.O), (20, bgB p.T), (22, chB p.C)] [2, 3, 8, 12, 16, 20, 22]) (Wk.mk [(2, some 2), (3, some 3), (8, some 8), (12, some 12), (16, some 16), (20, some 20), (22, some 22)] rfl rfl rfl ?_ ?_) ?_
 ·exact allT
 ·exact ⟨hSm, HeapOk.box rfl rfl ⟨LeC.ow _ _ rfl, LeC.ow _ _ rfl, LeC.ow _ _ rfl, LeC.ow _ _ rfl, LeC.ow _ _ rfl, trivial⟩ rfl,
  hrF rdC_imm, hrF bpC_imm, hrF bgC_imm28, hrF bgC_imm28
  , .inr ⟨22, p.C.length, _, .inl rfl, rfl, rfl, fun i hi j hj => by
    have hi : i < p.C.length := hi
    show LeC _ _ (cpF p.C m 23 i j) (chF p.C i j)
    unfold cpF
    rw [if_neg (by omega)]
    exact LeC.refl _ rfl⟩, trivial⟩
 repeat (first
  | refine thenA_n ?_
  | refine AWp.ret ?_
  | (refine rG 6 ?_
     refine kF ?_
     refine kI ?_
     refine aB ?_))
 refine ⟨mkSt 42 [(2, .c (.pt 2 5 0 0))] [(2, ⟨false, 1, 5, 32, lF [.ow 900, lsC p.C, .ow 901, .ow 902, .ow 903]⟩), (900, rdB p.R), (901, bpB p.F), (902, bgB p.O), (903, bgB p.T)] [2, 900, 901, 902, 903], [(2, ⟨false, 1, 5, 32, lF [.ow 900, lsC p.C, .ow 901, .ow 902, .ow 903]⟩)], _, [], chNw p, ⟨rfl, rfl, rfl⟩, rfl, Wk.mk [(2, some 2), (900, some 8), (901, some 12), (902, some 16), (903, some 20)] rfl rfl rfl ?_ ?_, rfl, rfl, GRets.one (x := .ag _) (GRes.box tyOk rfl rfl rfl rfl rfl rfl)⟩
 ·exact allT
 ·exact ⟨HeapOk.box rfl rfl ⟨LeC.ow _ _ rfl, LeC.fz rfl rfl rfl (fun i _ j _ => ⟨rfl, rfl⟩), LeC.ow _ _ rfl, LeC.ow _ _ rfl, LeC.ow _ _ rfl, trivial⟩ rfl,
  hrF rdC_imm, hrF bpC_imm, hrF bgC_imm28, hrF bgC_imm28
  , trivial⟩
theorem chBackB {p : Pb} {ni : List Nat} : BackB [] ni (chNw p) (chNw p) :=
 BackB.same (fun i _ j _ => rowF_imm rdC_imm _ i j) (BackB.same (fun i _ j _ => rowF_imm bpC_imm _ i j) (BackB.same (fun i _ j _ => rowF_imm bgC_imm28 _ i j) (BackB.same (fun i _ j _ => rowF_imm bgC_imm28 _ i j) trivial)))
theorem chBackA {p : Pb} {a b c d : Nat} (h1 : posOf [a, b, c, d] a = some 0) (h2 : posOf [a, b, c, d] b = some 1) (h3 : posOf [a, b, c, d] c = some 2) (h4 : posOf [a, b, c, d] d = some 3) : BackA [] [a, b, c, d] (chRes p) (.ag [.ow a, lsC p.C, .ow b, .ow c, .ow d]) :=
 .ag ⟨.owN 0 a h1, .imm _ rfl, .owN 1 b h2, .owN 2 c h3, .owN 3 d h4, trivial⟩
end Go.Proofs.Ytjjaehpkccejaaa
end
