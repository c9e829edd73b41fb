/- The law's 'is': an example. No condition but those that each states. -/
import Derived.Test.YtfgcogkhnnflcaaDoorProg
import Derived.Test.YtfgcogkhnnflcaaDoorBdNear
namespace Go.Proofs.YtfgcogkhnnflcaaDoor
open Go.RowKit Go.Flow Go.Plain
open Go.Proofs
attribute [local go_sem] block_add
attribute [local go_sem ↓] Go.wp_at_zero Go.wp_at_succ

def exA (k : Nat) : Bool := [true, true, false, false, true, true, false, false].getD k false
def exB (k : Nat) : Bool := [false, true, true, false, false, false, false, false].getD k false
theorem exA_own {w : World} {g : Nat} {t : TypeId} (h : Blk w g t #[.bool true, .bool true, .bool false, .bool false, .bool true, .bool true, .bool false, .bool false]) : Bools w (some ⟨g, 0, none⟩) 8 exA :=
  Own.arr (t := t) ⟨_, h, rfl, fun k hk => match k, hk with | 0, _ => rfl | 1, _ => rfl | 2, _ => rfl | 3, _ => rfl | 4, _ => rfl | 5, _ => rfl | 6, _ => rfl | 7, _ => rfl⟩
theorem exB_own {w : World} {g : Nat} {t : TypeId} (h : Blk w g t #[.bool false, .bool true, .bool true, .bool false, .bool false, .bool false, .bool false, .bool false]) : Bools w (some ⟨g, 0, none⟩) 8 exB :=
  Own.arr (t := t) ⟨_, h, rfl, fun k hk => match k, hk with | 0, _ => rfl | 1, _ => rfl | 2, _ => rfl | 3, _ => rfl | 4, _ => rfl | 5, _ => rfl | 6, _ => rfl | 7, _ => rfl⟩

theorem is_true (x0 x1 x2 x3 y0 y1 y2 y3 v : Int) (w : World) (hS : Sides w) (hok : okN 4 2 8 4 2 8 = true) (hv : leastN 4 2 8 exA 4 2 8 exB x0 x1 x2 x3 y0 y1 y2 y3 = v) :
    Calls Tryd.prog 23 #[bud x0 x1 x2 x3, bud y0 y1 y2 y3, .int .i64 v] w fun e w' => e = .returned (.bool true) ∧ Ext w w' := by
  have hvv : (v == v) = true := by simp
  go_enter Tryd.func23, Tryd.ntmps23
  go_wp2_with fail
  refine (Least_any 4 2 _ 8 8 exA 4 2 _ 8 8 exB x0 x1 x2 x3 y0 y1 y2 y3 _ (exA_own ((((Blk.new' (by simp) _ _).alloc _).alloc _).alloc _)) (exB_own ((Blk.new' (by simp) _ _).alloc _)) (hS.ext ((((((((Ext.refl w).alloc _).alloc _).alloc _).alloc _).alloc _).alloc _)))).mono ?_
  rintro e w1 ⟨rfl, hE1⟩
  have hE := Lib.hid ((((((((Ext.refl w).alloc _).alloc _).alloc _).alloc _).alloc _).alloc _).trans hE1)
  clear hE1
  rw [hok, hv]
  go_wp2_with fail
  go_ret
  exact ⟨rfl, hE.out⟩
end Go.Proofs.YtfgcogkhnnflcaaDoor
