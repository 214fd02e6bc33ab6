/- Whatever the time and the counter: wrap's Extend answers what the document's does. No condition. -/
import Derived.Test.YtcidkcegfkhfmaaQWrapExtendsx1
import Derived.OpenShut
namespace Go.Proofs.Ytcidkcegfkhfmaa.Pure
open Go.RowKit Go.Proofs.Ytcidkcegfkhfmaa.QWrapExtends Go.Proofs.YtcidkcegfkhfmaaW.PrintWords Go.Proofs.YtcidkcegfkhfmaaW.PrintLast
namespace WrapExtends_
theorem w64 {x : Int} (h0 : -9223372036854775808 ≤ x) (h1 : x ≤ 9223372036854775807) : wrap64 x = x := by unfold wrap64; omega
theorem a_u16 (n : Int) : IntKind.u16.wrap n = n % 65536 := by simp [IntKind.wrap, IntKind.bits, IntKind.signed]
theorem a_i16 (n : Int) : IntKind.i16.wrap n = (n + 32768) % 65536 - 32768 := by
  simp [IntKind.wrap, IntKind.bits, IntKind.signed]
  split <;> omega

theorem alive : angeluslaw02_alive.f 5 = some true := by decide +kernel

theorem one_is (n : Int) : angelusref02_one.f n = some (if n > 1125899906842624 then 0 else 1) := by unfold angelusref02_one.f; split <;> rfl

theorem ext (a b : Int) (hb : 0 ≤ b ∧ b ≤ 4294967295) : ∃ r, wrap_Extend.f 5 a b = some r ∧ angelusref02_Extend.f 5 a b = some r := by
  unfold wrap_Extend.f angelusref02_Extend.f
  by_cases c : a < 0
  · rw [if_pos c, if_pos c]
    exact ⟨(0, false), rfl, rfl⟩
  · rw [if_neg c, if_neg c]
    by_cases c2 : a > 1125899906842624
    · rw [decide_eq_true c2]
      exact ⟨(0, false), rfl, rfl⟩
    · rw [decide_eq_false c2]
      simp only [wrap_Extend.j0, angelusref02_Extend.j0, Bool.false_eq_true, if_false]
      have e1 : wrap64 (wrap64 (wrap64 (Int.tdiv a 4294967296) * 4294967296) + wrap64 b) = a / 4294967296 * 4294967296 + b := by
        rw [Int.tdiv_eq_ediv_of_nonneg (by omega)]
        unfold wrap64
        omega
      have e0 : wrap64 (a + (b - a) % 4294967296) = a + (b - a) % 4294967296 := w64 (by omega) (by omega)
      rw [e1, e0, one_is, one_is]
      have e2 : wrap64 (a / 4294967296 * 4294967296 + b + 4294967296) = a / 4294967296 * 4294967296 + b + 4294967296 := w64 (by omega) (by omega)
      rw [e2]
      simp only [Option.bind_some]
      by_cases c3 : a / 4294967296 * 4294967296 + b < a
      · rw [if_pos c3]
        have e3 : a + (b - a) % 4294967296 = a / 4294967296 * 4294967296 + b + 4294967296 := by omega
        rw [e3]
        by_cases c4 : a / 4294967296 * 4294967296 + b + 4294967296 > 1125899906842624
        · rw [if_pos c4, if_pos c4, decide_eq_false (by omega), Int.mul_zero, w64 (x := 0) (by omega) (by omega)]
          exact ⟨_, rfl, rfl⟩
        · rw [if_neg c4, if_neg c4, decide_eq_true (by omega), Int.mul_one, e2]
          exact ⟨_, rfl, rfl⟩
      · rw [if_neg c3]
        have e3 : a + (b - a) % 4294967296 = a / 4294967296 * 4294967296 + b := by omega
        rw [e3]
        by_cases c4 : a / 4294967296 * 4294967296 + b > 1125899906842624
        · rw [if_pos c4, if_pos c4, decide_eq_false (by omega), Int.mul_zero, w64 (x := 0) (by omega) (by omega)]
          exact ⟨_, rfl, rfl⟩
        · rw [if_neg c4, if_neg c4, decide_eq_true (by omega), Int.mul_one, w64 (by omega) (by omega)]
          exact ⟨_, rfl, rfl⟩
end WrapExtends_
open WrapExtends_ in
theorem WrapExtends : angeluslaw02_WrapExtends.Pure := by
  intro a b wa wb
  have hb := bounds_u32 wb
  refine ⟨5, ?_⟩
  unfold angeluslaw02_WrapExtends.f
  obtain ⟨r, h1, h2⟩ := ext a b hb
  rw [alive, h1, h2]
  simp

end Go.Proofs.Ytcidkcegfkhfmaa.Pure
