/- math/bits.TrailingZeros64, at its table, which lies in block 0. -/
import Derived.Shelf.Spec.TrailingZeros
import Derived.Test.YtofflnklbdhaiaaDoorKp
import Derived.IntWalk
import Derived.Test.YtofflnklbdhaiaaDoorChecked
namespace Go.Proofs.YtofflnklbdhaiaaDoor.Tz
open Go.RowKit Go.Proofs.YtofflnklbdhaiaaDoor.Bk Go.Proofs.YtofflnklbdhaiaaDoor.Kp
/-- The table lies in block 0. -/
abbrev Tab (w : World) : Prop := 0 < w.heap.size ∧ ∀ j, j < Lib.deBruijn64tab.length → w.cell? ⟨0, j, none⟩ = some (.int .u8 (Lib.deBruijn64tab.getD j 0))
theorem Tab.kp {S : Nat → Prop} {w w' : World} (h : Tab w) (hk : Kp S w w') (hS : ¬ S 0) : Tab w' :=
  ⟨Nat.lt_of_lt_of_le h.1 hk.size, fun j hj => (World.cell?_of_block (hk.block 0 h.1 hS)).trans (h.2 j hj)⟩
theorem Tab.below {B : Nat} {w w' : World} (h : Tab w) (hb : Below B w w') (hB : 0 < B) : Tab w' :=
  ⟨Nat.lt_of_lt_of_le h.1 hb.size, fun j hj => (hb.cell (p := ⟨0, j, none⟩) hB).trans (h.2 j hj)⟩
theorem tz_core (x k idx : Nat) (w : World) (hx0 : ((x : Int) == 0) = false)
    (key : IntKind.u64.wrap (bits BinOp.and IntKind.u64 (x : Int) (IntKind.u64.wrap (-(x : Int))) * 285870213051353865) / 288230376151711744 = (idx : Int))
    (hi : idx < 64) (hk : k < 64) (hcell : w.cell? ⟨0, idx, none⟩ = some (.int .u8 k)) :
    Calls Tryd.prog 22 #[.int .u64 x] w fun e w' => e = .returned (.int .i64 k) ∧ w = w' := by
  go_enter Tryd.func22, Tryd.ntmps22
  go_wp2_with (simp only [key])
  go_ret
  exact ⟨rfl, rfl⟩
theorem tz_ok (x : Nat) (hx : x < 2 ^ 64) (hx0 : x ≠ 0) (w : World) (hT : Tab w) : Calls Tryd.prog 22 #[.int .u64 x] w fun e w' => e = .returned (.int .i64 (Lib.ctz 64 x)) ∧ w = w' := by
  obtain ⟨hlow, hk⟩ := Lib.lowest_bit 64 x hx0 hx
  obtain ⟨hi, htab⟩ := Lib.deBruijn64_at _ hk
  have hcell := hT.2 _ hi
  rw [htab] at hcell
  exact tz_core x _ _ w (by simp; omega) (tz64_key x _ hx hx0 hlow) hi hk hcell
end Go.Proofs.YtofflnklbdhaiaaDoor.Tz
