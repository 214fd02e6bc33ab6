/- A counter that is read again before it has gone round is extended to the time that it shows; Diff tells what went by, if it was less than 2^31. No condition. -/
import Derived.Test.YtcidkcegfkhfmaaQWrapReadsx1
import Derived.OpenShut
namespace Go.Proofs.Ytcidkcegfkhfmaa.Pure
open Go.RowKit Go.Proofs.Ytcidkcegfkhfmaa.QWrapReads Go.Proofs.YtcidkcegfkhfmaaW.PrintWords Go.Proofs.YtcidkcegfkhfmaaW.PrintLast
namespace WrapReads_
theorem w64 {x : Int} (h0 : -9223372036854775808 ≤ x) (h1 : x ≤ 9223372036854775807) : wrap64 x = x := by unfold wrap64; omega
theorem a_u16 (n : Int) : IntKind.u16.wrap n = n % 65536 := by simp [IntKind.wrap, IntKind.bits, IntKind.signed]
theorem a_i16 (n : Int) : IntKind.i16.wrap n = (n + 32768) % 65536 - 32768 := by
  simp [IntKind.wrap, IntKind.bits, IntKind.signed]
  split <;> omega

theorem alive : angeluslaw02_alive.f 5 = some true := by decide +kernel

end WrapReads_
open WrapReads_ in
theorem WrapReads : angeluslaw02_WrapReads.Pure := by
  intro a b wa wb
  have hb := bounds_u32 wb
  have ha := bounds_i64 wa
  refine ⟨5, ?_⟩
  unfold angeluslaw02_WrapReads.f
  rw [alive]
  simp only [Option.bind_some, if_true]
  by_cases c : a < 0
  · rw [if_pos c]; rfl
  · rw [if_neg c]
    by_cases c2 : a > 562949953421312
    · rw [decide_eq_true c2]; rfl
    · rw [decide_eq_false c2]
      simp only [angeluslaw02_WrapReads.j0, Bool.false_eq_true, if_false]
      rw [w64 (x := b) (by omega) (by omega), w64 (x := a + b) (by omega) (by omega)]
      unfold wrap_Extend.f
      rw [if_neg c, decide_eq_false (by omega)]
      simp only [wrap_Extend.j0, Bool.false_eq_true, if_false]
      have e : a + ((a + b) % 4294967296 - a) % 4294967296 = a + b := by omega
      rw [e, w64 (x := a + b) (by omega) (by omega), if_neg (by omega)]
      simp only [Option.bind_some, if_true]
      by_cases c3 : b ≥ 2147483648
      · rw [if_pos c3]
      · rw [if_neg c3]
        unfold wrap_Diff.f wrap32
        have e2 : ((((a + b) % 4294967296 - a % 4294967296) % 4294967296 + 2147483648) % 4294967296 - 2147483648) = b := by omega
        rw [e2, w64 (x := b) (by omega) (by omega)]
        simp

end Go.Proofs.Ytcidkcegfkhfmaa.Pure
