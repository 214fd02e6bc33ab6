/- The check ahead of each of ring's laws. -/
import Derived.Test.YtjmakjfnhffehaaRing
import Derived.Test.YtjmakjfnhffehaaIn
namespace Go.Proofs.Ytjmakjfnhffehaa.RAlive
open Go.RowKit Go.Proofs.Ytjmakjfnhffehaa.Bk Go.Proofs.Ytjmakjfnhffehaa.Rw Go.Proofs.Ytjmakjfnhffehaa.Ow Go.Proofs.Ytjmakjfnhffehaa.Kp Go.Proofs.Ytjmakjfnhffehaa.Ring

/-- A list of numbers as_ values. -/
def vs (l : List Int) : List Value := l.map (Value.int .i64)

theorem alive_ok (w : World) : Calls Try.prog 4 #[] w fun e w' => e = .returned (.bool true) ∧ Below w.heap.size w w' := by
  go_enter Try.func4, Try.ntmps4
  go_wp2_with fail
  refine (RI.new_ok 2 _ (by omega) (by omega)).mono ?_
  rintro e w1 ⟨p, g, rfl, hr, hp, hg, hb⟩
  have HR := Lib.hid hr
  have HP := Lib.hid (show ∀ k, k = p ∨ k = g → w.heap.size ≤ k by omega)
  have HB := Lib.hid hb
  clear hr hp hg hb
  go_wp2_with fail
  refine (RI.push_ok p g 2 _ 1 _ HR.out (by decide) (by decide)).mono ?_
  rintro e w2 ⟨rfl, hr, hk⟩
  have HR2 := Lib.hid hr
  have HB2 := Lib.hid (below_kp HB.out HB.out.size hk HP.out)
  clear hr hk HR HB
  go_wp2_with fail
  refine (RI.push_ok p g 2 _ 2 _ HR2.out (by decide) (by decide)).mono ?_
  rintro e w3 ⟨rfl, hr, hk⟩
  have HR3 := Lib.hid hr
  have HB3 := Lib.hid (below_kp HB2.out HB2.out.size hk HP.out)
  clear hr hk HR2 HB2
  go_wp2_with fail
  refine (RI.push_full p g 2 _ 3 _ HR3.out (by decide)).mono ?_
  rintro e w4 ⟨rfl, m, rfl⟩
  go_wp2_with fail
  refine (RI.pop_ok p g 2 (.int .i64 1) [.int .i64 2] _ (HR3.out.drewN m) (by decide)).mono ?_
  rintro e w5 ⟨rfl, hr, hk⟩
  have HR5 := Lib.hid hr
  have HB5 := Lib.hid (below_kp (below_drewN_ HB3.out m) (Nat.le_trans HB3.out.size (Nat.le_refl _)) hk HP.out)
  clear hr hk HR3 HB3
  go_wp2_with (first
    | (go_at_call 8; with_reducible refine Calls.mono (RI.push_ok p g 2 _ 3 _ HR5.out (by decide) (by decide)) ?_; rintro e w6 ⟨rfl, hr, hk⟩; have HR6 := Lib.hid hr; have HB6 := Lib.hid (below_kp HB5.out HB5.out.size hk HP.out); clear hr hk)
    | (go_at_call 9; with_reducible refine Calls.mono (RI.len_ok p g 2 _ _ HR6.out) ?_; rintro e w' ⟨rfl, rfl⟩))

  go_ret
  exact ⟨rfl, HB6.out⟩
end Go.Proofs.Ytjmakjfnhffehaa.RAlive
