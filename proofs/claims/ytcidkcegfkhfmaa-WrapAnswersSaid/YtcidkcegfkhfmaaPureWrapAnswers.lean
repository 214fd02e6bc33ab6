/- Whatever the numbers: wrap's Diff, Newer and Next answer what the document's do. No condition. -/
import Derived.Test.YtcidkcegfkhfmaaQWrapAnswersx1
import Derived.OpenShut
namespace Go.Proofs.Ytcidkcegfkhfmaa.Pure
open Go.RowKit Go.Proofs.Ytcidkcegfkhfmaa.QWrapAnswers Go.Proofs.YtcidkcegfkhfmaaW.PrintWords Go.Proofs.YtcidkcegfkhfmaaW.PrintLast
namespace WrapAnswers_
theorem a_u16 (n : Int) : IntKind.u16.wrap n = n % 65536 := by simp [IntKind.wrap, IntKind.bits, IntKind.signed]
theorem a_i16 (n : Int) : IntKind.i16.wrap n = (n + 32768) % 65536 - 32768 := by
  simp [IntKind.wrap, IntKind.bits, IntKind.signed]
  split <;> omega

theorem alive : angeluslaw02_alive.f 5 = some true := by decide +kernel

theorem diff (a b : Int) (ha : 0 ≤ a ∧ a ≤ 4294967295) (hb : 0 ≤ b ∧ b ≤ 4294967295) : wrap_Diff.f a b = angelusref02_Diff.f a b := by
  unfold wrap_Diff.f angelusref02_Diff.f wrap64 wrap32
  split
  · congr 1; omega
  · split
    · congr 1; omega
    · congr 1; omega

theorem newer (a b : Int) (ha : 0 ≤ a ∧ a ≤ 65535) (hb : 0 ≤ b ∧ b ≤ 65535) : wrap_Newer.f a b = angelusref02_Newer.f a b := by
  unfold wrap_Newer.f angelusref02_Newer.f wrap64
  rw [Int.tmod_eq_emod_of_nonneg (by omega), a_u16, a_i16]
  split
  · congr 1; rw [decide_eq_decide]; omega
  · congr 1; rw [decide_eq_false_iff_not]; omega

theorem next (a : Int) (ha : 0 ≤ a ∧ a ≤ 65535) : wrap_Next.f a = angelusref02_Next.f a := by
  unfold wrap_Next.f angelusref02_Next.f wrap64
  rw [Int.tmod_eq_emod_of_nonneg (by omega), a_u16, a_u16]
  congr 1; omega

theorem isDiff (a b : Int) : ∃ d, angelusref02_Diff.f a b = some d := by
  unfold angelusref02_Diff.f
  split
  · exact ⟨_, rfl⟩
  · split <;> exact ⟨_, rfl⟩
theorem isNewer (a b : Int) : ∃ d, angelusref02_Newer.f a b = some d := by
  unfold angelusref02_Newer.f
  split <;> exact ⟨_, rfl⟩
end WrapAnswers_
open WrapAnswers_ in
theorem WrapAnswers : angeluslaw02_WrapAnswers.Pure := by
  intro a b x y wa wb wx wy
  have ha := bounds_u32 wa
  have hb := bounds_u32 wb
  have hx := bounds_u16 wx
  have hy := bounds_u16 wy
  refine ⟨5, ?_⟩
  unfold angeluslaw02_WrapAnswers.f
  rw [alive, diff a b ha hb, newer x y hx hy, next x hx]
  obtain ⟨d, hd⟩ := isDiff a b
  obtain ⟨n, hn⟩ := isNewer x y
  obtain ⟨e, he⟩ : ∃ d, angelusref02_Next.f x = some d := ⟨_, rfl⟩
  rw [hd, hn, he]
  simp

end Go.Proofs.Ytcidkcegfkhfmaa.Pure
