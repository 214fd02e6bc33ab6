/- Ring's functions of no ring. -/
import Derived.Test.YtjmakjfnhffehaaRow
namespace Go.Proofs.Ytjmakjfnhffehaa.It
open Go.RowKit Go.Proofs.Ytjmakjfnhffehaa.Bk Go.Proofs.Ytjmakjfnhffehaa.Rw Go.Proofs.Ytjmakjfnhffehaa.Ow Go.Proofs.Ytjmakjfnhffehaa.Kp Go.Proofs.Ytjmakjfnhffehaa.Ring Go.Proofs.Ytjmakjfnhffehaa.RAlive Go.Proofs.Ytjmakjfnhffehaa.Ck Go.Proofs.Ytjmakjfnhffehaa.Ck2

theorem clear_nil (w : World) : Calls Try.prog 6 #[.pointer none] w fun e w' => e = .returned (.tuple #[]) ∧ w = w' := by
  go_enter Try.func6, Try.ntmps6
  go_wp2
  go_end0
  exact ⟨rfl, rfl⟩
theorem push_nil (v : Int) (w : World) : Calls Try.prog 8 #[.pointer none, .int .i64 v] w fun e w' => e = .returned (.int .i64 2) ∧ w = w' := by
  go_enter Try.func8, Try.ntmps8
  go_wp2
  go_ret
  exact ⟨rfl, rfl⟩
theorem pop_nil (w : World) : Calls Try.prog 7 #[.pointer none] w fun e w' => e = .returned (.tuple #[.int .i64 0, .bool false]) ∧ w = w' := by
  go_enter Try.func7, Try.ntmps7
  go_wp2_with (go_at_call 9; (with_reducible refine Calls.mono (len_nil _) ?_); rintro e w1 ⟨rfl, rfl⟩)
  go_ret2
  exact ⟨rfl, rfl⟩
end Go.Proofs.Ytjmakjfnhffehaa.It
