/- Parts of the proof: Low, Same, ImgPut, AOld, ASet. -/
import Derived.Test.YtekkldgmjdllbaaG10
import Derived.Test.YtekkldgmjdllbaaProg
import Derived.Test.YtekkldgmjdllbaaG01
import Derived.Test.YtekkldgmjdllbaaHA25mkr01
import Derived.Lib.Hide
import Derived.Deep.QuietTactic
import Derived.BigQuiet
import Derived.Deep.DrawnRows
import Derived.StillTail
import Derived.Below
import Derived.Deep.Draws
import Derived.WalkKit
import Derived.KernelRfl
import Derived.Deep.AppendLies
import Derived.Maps.AppendAt
import Derived.OwnWalk
import Derived.Test.YtekkldgmjdllbaaG09
import Derived.Test.YtekkldgmjdllbaaHA25mkr03
import Derived.Test.YtekkldgmjdllbaaG07
import Derived.Test.YtekkldgmjdllbaaG06
import Derived.Laws.StructEq
import Derived.Test.YtekkldgmjdllbaaG05
import Derived.Test.YtekkldgmjdllbaaG04
import Derived.Great.BuildSlice
import Derived.Test.YtekkldgmjdllbaaG03
import Derived.Test.YtekkldgmjdllbaaG02
import Derived.RangeFuncLeaves
import Derived.RangeFuncRecord
import Derived.OrdersIn
import Derived.TacticsIn
import Derived.RangeFuncCalls
set_option linter.unusedSimpArgs false
set_option linter.unusedVariables false
section
namespace Go.Proofs.Ytekkldgmjdllbaa
open Go.RowKit Go.Flow
open Go.Proofs
attribute [local go_sem] block_add
attribute [local go_sem ↓] Go.wp_at_zero Go.wp_at_succ

theorem side2_any (n : Int) (w : World) :
 Calls Try.prog 116 #[.int .i64 n] w fun e w' => e = .returned (.bool (sideB n)) ∧ w = w' := by
 go_enter Try.func116, Try.ntmps116
 go_wp2
 all_goals go_ret
 all_goals exact ⟨ret_bool (by unfold sideB; simp; omega), rfl⟩

theorem Check2_any (W H : Int) (A : Option Addr) (n c : Nat) (w : World) :
 Calls Try.prog 64 #[bmp W H A n c] w fun e w' => e = .returned (.int .i64 (chk W H n)) ∧ Ext w w' := by
 have hfin : Ext w (w.alloc (.cells #[.int .i64 W, .int .i64 H, .slice A n c] 31)) := (Ext.refl w).alloc _
 replace hfin := Lib.hid hfin
 cases hW : sideB W
 ·have hr : chk W H n = 13 := by simp [chk, hW]
  replace hr := Lib.hid hr
  go_enter Try.func64, Try.ntmps64
  go_wp2_with (first | (go_at_call 116; refine (side2_any _ _).mono ?_; rintro e w' ⟨rfl, rfl⟩))
  go_ret
  exact ⟨ret_int hr.out.symm, hfin.out⟩
 cases hH : sideB H
 ·have hr : chk W H n = 13 := by simp [chk, hH]
  replace hr := Lib.hid hr
  go_enter Try.func64, Try.ntmps64
  go_wp2_with (first | (go_at_call 116; refine (side2_any _ _).mono ?_; rintro e w' ⟨rfl, rfl⟩))
  go_ret
  exact ⟨ret_int hr.out.symm, hfin.out⟩
 have hb := area_bd (sideB_iff.1 hW) (sideB_iff.1 hH)
 have hr : chk W H n = if (n : Int) = W * H then 0 else 5 := by simp [chk, hH, hW]
 replace hr := Lib.hid hr
 go_enter Try.func64, Try.ntmps64
 go_wp2_with (first | (go_at_call 116; refine (side2_any _ _).mono ?_; rintro e w' ⟨rfl, rfl⟩))
 all_goals go_ret
 all_goals refine ⟨?_, hfin.out⟩
 all_goals rw [hr.out]
 all_goals simp_all

def dval (N : Nat) (f : Nat → Int) (at_ : Nat) (m : Int) : Int := if at_ < N then f at_ % m else 0
def dat (N at_ : Nat) : Nat := if at_ < N then at_ + 1 else at_
attribute [local go_sem] block_add
attribute [local go_sem ↓] Go.wp_at_zero Go.wp_at_succ

theorem info_bool : (Try.prog.info? 4).map (fun i => (i.zero, i.size, i.bytes)) = some (some (.bool false), 1, 1) := by kernel_rfl
def NewPost (W H : Int) (w : World) (e : Ending) (w' : World) : Prop :=
 ∃ g n, e = .returned (.tuple #[bmp W H (some ⟨g, 0, none⟩) n n, .int .i64 0]) ∧ (n : Int) = W * H ∧ Flow.Own w' g 4 n (fun _ => .bool false) ∧ w.heap.size ≤ g ∧ Ext w w'

theorem New_ok (W H : Int) (w : World) (hb : (sideB W && sideB H) = true) :
 Calls Try.prog 133 #[.int .i64 W, .int .i64 H] w (NewPost W H w) := by
 obtain ⟨i0, hi, hz0, hz1, hz2⟩ := info_parts info_bool
 simp only [Bool.and_eq_true] at hb
 obtain ⟨hW, hH⟩ := hb
 have hbd := area_bd (sideB_iff.1 hW) (sideB_iff.1 hH)
 obtain ⟨n, hn⟩ : ∃ n : Nat, W * H = n := ⟨(W * H).toNat, by omega⟩
 have hn' := Lib.hid hn
 clear hn
 go_enter Try.func133, Try.ntmps133
 go_wp2_with (first
  | (go_at_call 134; refine (side_any _ _).mono ?_; rintro e w' ⟨rfl, rfl⟩)
  | (at_make; refine wpList_make rfl (.tmp 19) (.tmp 19) 29 rfl 4 i0 (.bool false) Try.underlying29 hi hz0 hz1 rfl _ _ _ _ n rfl rfl hn'.out hn'.out (by rw [hz2]; have := hn'.out; omega) (by have := hn'.out; omega) ?_))
 intro w1 hO hE
 obtain ⟨hBc, hBf, hBl⟩ := ((Blk.new w 31 #[.int .i64 0, .int .i64 0, .slice none 0 0]).ext hE).rules
 go_wp2
 refine bodyPost_ret (v := .tuple #[bmp W H (some ⟨w.heap.size + 1, 0, none⟩) n n, .int .i64 0]) (by simp [results, Try.results133, go_sem, *]) rfl
  ⟨w.heap.size + 1, n, rfl, hn'.out.symm, ((hO.far ?_ _).far ?_ _).far ?_ _, by omega, ((((Ext.refl w).alloc _).trans hE).setCell ?_ _ |>.setCell ?_ _ |>.setCell ?_ _)⟩ <;> simp
end Go.Proofs.Ytekkldgmjdllbaa
end
section
namespace Go.Flow
open Go Go.RowKit
section
variable {w w' : World} {base n : Nat} {A : Option Addr} {t : TypeId} {F : Nat → Value}
theorem Mine.of_own {g : Nat} (h : Flow.Own w g t n F) (hg : base ≤ g) : Mine w base (some ⟨g, 0, none⟩) t n F := fun _ =>
 let ⟨cs, hb, _, hc⟩ := h
 ⟨g, rfl, hg, cs, hb, hc⟩
theorem Mine.set_ {p : Addr} (h : Mine w base A t n F) (hp : p.block < base) (u : Value) : Mine (w.setCell p u) base A t n F := fun hn =>
 let ⟨g, e, hg, cs, hb, hc⟩ := h hn
 ⟨g, e, hg, cs, hb.far (by omega) u, hc⟩
theorem Mine.congr {G : Nat → Value} (h : Mine w base A t n F) (hg : ∀ k, k < n → F k = G k) : Mine w base A t n G := fun hn =>
 let ⟨g, e, hb, cs, hc, hr⟩ := h hn
 ⟨g, e, hb, cs, hc, fun k hk => by rw [hr k hk, hg k hk]⟩
end
end Go.Flow
namespace Go.Proofs.Ytekkldgmjdllbaa
open Go.RowKit Go.Flow
open Go.Proofs
attribute [local go_sem] block_add
attribute [local go_sem ↓] Go.wp_at_zero Go.wp_at_succ

end Go.Proofs.Ytekkldgmjdllbaa
end
section
namespace Go.AV
open Go Go.RowKit Go.Flow
section
variable {P : Program}
variable {σ : Nat → Option Value} {O : Nat → Prop} {w : World} {u : Value} {n : Nat}
theorem mine_rep {base : Nat} {A : Option Addr} {t : TypeId} {c : Nat} {F : Nat → Nat → CV} {G : Nat → Value} (hF : ∀ k, F k 0 = .p (G k)) (h1 : ∀ k, k < n → (G k).oneCell' = true) (hb : ∀ b, O b → b < base) (hc : n ≤ c) (h : Mine w base A t n G) : RepC σ O w (.ls n 1 F) (.slice A n c) := by
 refine ⟨rfl, A, c, rfl, hc, fun k hk j hj => ?_⟩
 obtain ⟨g, rfl, hg, cs, hB, hx⟩ := h (by omega)
 obtain rfl : j = 0 := by omega
 refine ⟨⟨g, 0, none⟩, G k, rfl, fun ho => by have := hb _ ho; simp at this; omega, ?_, h1 k hk, by rw [hF]; rfl⟩
 rw [add_off]
 simpa using (hB.cell k).trans (hx k hk)
end
end Go.AV
namespace Go.Proofs.Ytekkldgmjdllbaa
open Go.RowKit Go.Flow Go.AV
theorem args5 {R : V1 → Value → Prop} {a b c d e : V1} {vals : List Value} (h : RepL R [a, b, c, d, e] vals) : ∃ x y z t s, vals = [x, y, z, t, s] ∧ R a x ∧ R b y ∧ R c z ∧ R d t ∧ R e s := by
 match vals, h with
 | [x, y, z, t, s], ⟨h1, h2, h3, h4, h5, _⟩ => exact ⟨x, y, z, t, s, rfl, h1, h2, h3, h4, h5⟩
end Go.Proofs.Ytekkldgmjdllbaa
end
section
namespace Go.AV
open Go Go.RowKit Go.Flow
theorem set_oneB {n k : Nat} {f : Nat → Bool} {e : Bool} (g : Nat → Bool) (h1 : g k = e) (h2 : ∀ i, ¬i = k → g i = f i) : ∀ i, i < n → ∀ j, j < 1 → setF (bF f) k 0 1 [bC e] i j = bF g i j ∧ immC (setF (bF f) k 0 1 [bC e] i j) = true := fun i hi => cell1 (by
 have : setF (bF f) k 0 1 [bC e] i 0 = bF g i 0 := by
  unfold setF
  by_cases h : i = k
  ·subst h
   rw [Nat.beq_refl]
   exact congrArg bC h1.symm
  ·rw [show Nat.beq i k = false from Bool.eq_false_iff.2 fun h' => h (Nat.eq_of_beq_eq_true h')]
   exact congrArg bC (h2 i h).symm
 rw [this]
 exact ⟨rfl, rfl⟩)
end Go.AV
end
