/- A counter that is read again and again, never later than it goes round, is extended to the sum of all that went by. No condition. -/
import Derived.Test.YtcidkcegfkhfmaaQWrapLongx1
import Derived.OpenShut
namespace Go.Proofs.Ytcidkcegfkhfmaa.Pure
open Go.RowKit Go.Proofs.Ytcidkcegfkhfmaa.QWrapLong Go.Proofs.YtcidkcegfkhfmaaW.PrintWords Go.Proofs.YtcidkcegfkhfmaaW.PrintLast
namespace WrapLong_
theorem w64 {x : Int} (h0 : -9223372036854775808 ≤ x) (h1 : x ≤ 9223372036854775807) : wrap64 x = x := by unfold wrap64; omega
theorem a_u16 (n : Int) : IntKind.u16.wrap n = n % 65536 := by simp [IntKind.wrap, IntKind.bits, IntKind.signed]
theorem a_i16 (n : Int) : IntKind.i16.wrap n = (n + 32768) % 65536 - 32768 := by
  simp [IntKind.wrap, IntKind.bits, IntKind.signed]
  split <;> omega

theorem alive : angeluslaw02_alive.f 5 = some true := by decide +kernel

theorem loop (l : List Int) (hl : ∀ x ∈ l, 0 ≤ x ∧ x ≤ 4294967295) (hn : l.length ≤ 200) (d : Nat) : ∀ (k : Nat) (i t raw : Int), 0 ≤ i → i ≤ (l.length : Int) → (l.length : Int) - i = d → d + 5 < k → 0 ≤ t → t ≤ 4294967296 * (i + 1) → raw = t % 4294967296 →
    angeluslaw02_WrapLong.l0 k t t raw l (l.length : Int) i = some true := by
  induction d with
  | zero =>
    intro k i t raw h0 h1 hd hk ht ht2 hr
    obtain ⟨k, rfl⟩ : ∃ m, k = m + 1 := ⟨k - 1, by omega⟩
    simp only [angeluslaw02_WrapLong.l0]; rw [if_neg (by omega)]
  | succ d ih =>
    intro k i t raw h0 h1 hd hk ht ht2 hr
    obtain ⟨k, rfl⟩ : ∃ m, k = m + 1 := ⟨k - 1, by omega⟩
    have hlt : i < (l.length : Int) := by omega
    have hx : 0 ≤ rd l i ∧ rd l i ≤ 4294967295 := by
      unfold rd
      rw [List.getD_eq_getElem?_getD, List.getElem?_eq_getElem (by omega)]
      exact hl _ (List.getElem_mem _)
    simp only [angeluslaw02_WrapLong.l0]
    rw [if_pos hlt, if_pos h0, if_pos hlt]
    generalize rd l i = x at hx
    obtain ⟨j, rfl⟩ : ∃ m, k = m + 1 := ⟨k - 1, by omega⟩
    have e : wrap_Extend.f (j + 1) t ((raw + x) % 4294967296) = some (t + x, true) := by
      unfold wrap_Extend.f
      rw [if_neg (by omega), decide_eq_false (by omega)]
      simp only [wrap_Extend.j0, Bool.false_eq_true, if_false]
      have e2 : t + ((raw + x) % 4294967296 - t) % 4294967296 = t + x := by omega
      rw [e2, w64 (by omega) (by omega), if_neg (by omega)]
    rw [e, w64 (x := x) (by omega) (by omega), w64 (x := t + x) (by omega) (by omega), w64 (x := i + 1) (by omega) (by omega)]
    simp only [Option.bind_some, if_true]
    exact ih (j + 1) (i + 1) (t + x) ((raw + x) % 4294967296) (by omega) (by omega) (by omega) (by omega) (by omega) (by omega) (by omega)
end WrapLong_
open WrapLong_ in
theorem WrapLong : angeluslaw02_WrapLong.Pure := by
  intro a l wa hm hz hl
  have ha := bounds_u32 wa
  refine ⟨l.length + 10, ?_⟩
  unfold angeluslaw02_WrapLong.f
  have hal : angeluslaw02_alive.f (l.length + 10) = some true := by
    unfold angeluslaw02_alive.f wrap_Extend.f
    rw [if_neg (by omega), decide_eq_false (by omega)]
    simp only [wrap_Extend.j0, Bool.false_eq_true, if_false]
    decide +kernel
  rw [hal]
  simp only [Option.bind_some, if_true]
  by_cases h : (l.length : Int) > 200
  · rw [if_pos h]
  · rw [if_neg h, w64 (x := a) (by omega) (by omega)]
    exact loop l (fun x hx => bounds_u32 (hl x hx)) (by omega) l.length _ 0 a a (by omega) (by omega) (by omega) (by omega) (by omega) (by omega) (by omega)

end Go.Proofs.Ytcidkcegfkhfmaa.Pure
