/- Diff is antisymmetric, but for counters 2^31 apart, and the same where both counters are moved alike. No condition. -/
import Derived.Test.YtcidkcegfkhfmaaQWrapTurnsx1
import Derived.OpenShut
namespace Go.Proofs.Ytcidkcegfkhfmaa.Pure
open Go.RowKit Go.Proofs.Ytcidkcegfkhfmaa.QWrapTurns Go.Proofs.YtcidkcegfkhfmaaW.PrintWords Go.Proofs.YtcidkcegfkhfmaaW.PrintLast
namespace WrapTurns_
theorem w64 {x : Int} (h0 : -9223372036854775808 ≤ x) (h1 : x ≤ 9223372036854775807) : wrap64 x = x := by unfold wrap64; omega
theorem a_u16 (n : Int) : IntKind.u16.wrap n = n % 65536 := by simp [IntKind.wrap, IntKind.bits, IntKind.signed]
theorem a_i16 (n : Int) : IntKind.i16.wrap n = (n + 32768) % 65536 - 32768 := by
  simp [IntKind.wrap, IntKind.bits, IntKind.signed]
  split <;> omega

theorem alive : angeluslaw02_alive.f 5 = some true := by decide +kernel

theorem xor_top (n a : Nat) (h : a < 2 ^ (n + 1)) : a ^^^ 2 ^ n = if a < 2 ^ n then a + 2 ^ n else a - 2 ^ n := by
  have hp : 0 < 2 ^ n := Nat.two_pow_pos n
  have h1 : (a ^^^ 2 ^ n) % 2 ^ n = a % 2 ^ n := by rw [Nat.xor_mod_two_pow, Nat.mod_self, Nat.xor_zero]
  have h2 : (a ^^^ 2 ^ n) / 2 ^ n = (a / 2 ^ n) ^^^ 1 := by
    rw [← Nat.shiftRight_eq_div_pow, Nat.shiftRight_xor_distrib, Nat.shiftRight_eq_div_pow, Nat.shiftRight_eq_div_pow, Nat.div_self hp]
  have h3 := Nat.div_add_mod (a ^^^ 2 ^ n) (2 ^ n)
  have h4 := Nat.div_add_mod a (2 ^ n)
  rw [h1, h2] at h3
  rw [Nat.pow_succ] at h
  by_cases c : a < 2 ^ n
  · rw [Nat.div_eq_of_lt c] at h3 h4
    rw [if_pos c]
    simp at h3 h4
    omega
  · have h5 : a / 2 ^ n = 1 := by
      rw [Nat.div_eq_iff hp]
      omega
    rw [h5] at h3 h4
    rw [if_neg c]
    simp at h3 h4
    omega
theorem xor32 (b : Int) (hb : 0 ≤ b ∧ b ≤ 4294967295) : Go.bits .xor .u32 b 2147483648 = if b < 2147483648 then b + 2147483648 else b - 2147483648 := by
  obtain ⟨n, rfl⟩ := Int.eq_ofNat_of_zero_le hb.1
  have h := xor_top 31 n (by omega)
  have h2 : (2147483648 : Int) = ((2 ^ 31 : Nat) : Int) := by decide
  rw [h2]
  simp only [bits, BitVec.ofInt_natCast, BitVec.toNat_xor, BitVec.toNat_ofNat]
  rw [Nat.mod_eq_of_lt (show n < 2 ^ IntKind.u32.bits by simp [IntKind.bits]; omega), Nat.mod_eq_of_lt (show 2 ^ 31 < 2 ^ IntKind.u32.bits by decide), h, IntKind.wrap_u32]
  split <;> split <;> omega
theorem diff_is (a b : Int) : wrap_Diff.f a b = some ((((a - b) % 4294967296 + 2147483648) % 4294967296) - 2147483648) := by
  unfold wrap_Diff.f wrap32
  rw [w64 (by omega) (by omega)]
end WrapTurns_
open WrapTurns_ in
theorem WrapTurns : angeluslaw02_WrapTurns.Pure := by
  intro a b c wa wb wc
  have ha := bounds_u32 wa
  have hb := bounds_u32 wb
  have hc := bounds_u32 wc
  refine ⟨5, ?_⟩
  unfold angeluslaw02_WrapTurns.f
  rw [alive, diff_is, diff_is, diff_is]
  simp only [Option.bind_some, if_true]
  rw [if_pos (by omega)]
  have e0 : ((((a - a) % 4294967296 + 2147483648) % 4294967296) - 2147483648) = 0 := by omega
  rw [e0]
  simp only [angeluslaw02_WrapTurns.j0, bne_self_eq_false, Bool.false_eq_true, if_false]
  rw [diff_is, xor32 b hb]
  simp only [Option.bind_some]
  by_cases h : b < 2147483648
  · rw [if_pos h]
    by_cases h2 : a = b + 2147483648
    · rw [if_pos h2, if_pos (by omega)]
      congr 1
      rw [beq_iff_eq]
      omega
    · rw [if_neg h2, w64 (by omega) (by omega)]
      congr 1
      rw [beq_iff_eq]
      omega
  · rw [if_neg h]
    by_cases h2 : a = b - 2147483648
    · rw [if_pos h2, if_pos (by omega)]
      congr 1
      rw [beq_iff_eq]
      omega
    · rw [if_neg h2, w64 (by omega) (by omega)]
      congr 1
      rw [beq_iff_eq]
      omega

end Go.Proofs.Ytcidkcegfkhfmaa.Pure
