/- Good answers whether a text is a label: for any text. No condition. -/
import Derived.Test.YteeeolagnndcaabEAlive
namespace Go.Proofs.Yteeeolagnndcaab.EventLabelsW
open Go.RowKit Go.Proofs.Yteeeolagnndcaab.Bk Go.Proofs.Yteeeolagnndcaab.Rw Go.Proofs.Yteeeolagnndcaab.Ow Go.Proofs.Yteeeolagnndcaab.Kp Go.Proofs.Yteeeolagnndcaab.Evr Go.Proofs.Yteeeolagnndcaab.Evt Go.Proofs.Yteeeolagnndcaab.Label

set_option maxHeartbeats 1000000 in
theorem walk (a0 : ByteArray) (W : World) (w0 : a0.size ≤ 140737488351232) :
    Calls Try.prog 3 #[.string a0] W fun e w' => e = .returned (.bool true) ∧ Below W.heap.size W w' := by
  have S : a0.size ≤ 140737488355328 := by omega
  clear w0
  by_cases hs : (a0.size : Int) ≤ 1000
  · go_enter Try.func3, Try.ntmps3
    go_wp2_with (first
      | (go_at_call 6; with_reducible refine Calls.mono (alive_ok _) ?_; rintro e w1 ⟨rfl, hb⟩; have HB := Lib.hid hb; clear hb)
      | (go_at_call 7; with_reducible refine Calls.mono (good_ok a0 _ S) ?_; rintro e w2 ⟨rfl, hb⟩; have HB2 := Lib.hid (HB.out.trans (hb.mono HB.out.size)); clear hb)
      | (go_at_call 8; with_reducible refine Calls.mono (refgood_ok a0 _ S) ?_; rintro e w3 ⟨rfl, rfl⟩))
    go_ret
    exact ⟨by simp, HB2.out⟩
  · have hs2 : (1000 : Int) < a0.size := by omega
    go_enter Try.func3, Try.ntmps3
    go_wp2_with (go_at_call 6; with_reducible refine Calls.mono (alive_ok _) ?_; rintro e w1 ⟨rfl, hb⟩; have HB := Lib.hid hb; clear hb)
    go_ret
    exact ⟨rfl, HB.out⟩
end Go.Proofs.Yteeeolagnndcaab.EventLabelsW
