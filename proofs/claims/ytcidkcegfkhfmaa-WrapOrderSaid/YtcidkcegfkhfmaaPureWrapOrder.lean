/- Of two sequence numbers just one is newer, unless they are the same or 2^15 apart; the next one is newer. No condition. -/
import Derived.Test.YtcidkcegfkhfmaaQWrapOrderx1
import Derived.OpenShut
namespace Go.Proofs.Ytcidkcegfkhfmaa.Pure
open Go.RowKit Go.Proofs.Ytcidkcegfkhfmaa.QWrapOrder Go.Proofs.YtcidkcegfkhfmaaW.PrintWords Go.Proofs.YtcidkcegfkhfmaaW.PrintLast
namespace WrapOrder_
theorem w64 {x : Int} (h0 : -9223372036854775808 ≤ x) (h1 : x ≤ 9223372036854775807) : wrap64 x = x := by unfold wrap64; omega
theorem a_u16 (n : Int) : IntKind.u16.wrap n = n % 65536 := by simp [IntKind.wrap, IntKind.bits, IntKind.signed]
theorem a_i16 (n : Int) : IntKind.i16.wrap n = (n + 32768) % 65536 - 32768 := by
  simp [IntKind.wrap, IntKind.bits, IntKind.signed]
  split <;> omega

theorem alive : angeluslaw02_alive.f 5 = some true := by decide +kernel

theorem xor_top (n a : Nat) (h : a < 2 ^ (n + 1)) : a ^^^ 2 ^ n = if a < 2 ^ n then a + 2 ^ n else a - 2 ^ n := by
  have hp : 0 < 2 ^ n := Nat.two_pow_pos n
  have h1 : (a ^^^ 2 ^ n) % 2 ^ n = a % 2 ^ n := by rw [Nat.xor_mod_two_pow, Nat.mod_self, Nat.xor_zero]
  have h2 : (a ^^^ 2 ^ n) / 2 ^ n = (a / 2 ^ n) ^^^ 1 := by
    rw [← Nat.shiftRight_eq_div_pow, Nat.shiftRight_xor_distrib, Nat.shiftRight_eq_div_pow, Nat.shiftRight_eq_div_pow, Nat.div_self hp]
  have h3 := Nat.div_add_mod (a ^^^ 2 ^ n) (2 ^ n)
  have h4 := Nat.div_add_mod a (2 ^ n)
  rw [h1, h2] at h3
  rw [Nat.pow_succ] at h
  by_cases c : a < 2 ^ n
  · rw [Nat.div_eq_of_lt c] at h3 h4
    rw [if_pos c]
    simp at h3 h4
    omega
  · have h5 : a / 2 ^ n = 1 := by
      rw [Nat.div_eq_iff hp]
      omega
    rw [h5] at h3 h4
    rw [if_neg c]
    simp at h3 h4
    omega
theorem xor16 (b : Int) (hb : 0 ≤ b ∧ b ≤ 65535) : Go.bits .xor .u16 b 32768 = if b < 32768 then b + 32768 else b - 32768 := by
  obtain ⟨n, rfl⟩ := Int.eq_ofNat_of_zero_le hb.1
  have h := xor_top 15 n (by omega)
  have h2 : (32768 : Int) = ((2 ^ 15 : Nat) : Int) := by decide
  rw [h2]
  simp only [bits, BitVec.ofInt_natCast, BitVec.toNat_xor, BitVec.toNat_ofNat]
  rw [Nat.mod_eq_of_lt (show n < 2 ^ IntKind.u16.bits by simp [IntKind.bits]; omega), Nat.mod_eq_of_lt (show 2 ^ 15 < 2 ^ IntKind.u16.bits by decide), h, a_u16]
  split <;> split <;> omega
theorem newer_is (a b : Int) : wrap_Newer.f a b = some (decide ((((a - b) % 65536 + 32768) % 65536) - 32768 > 0)) := by
  unfold wrap_Newer.f
  rw [a_u16, a_i16]
theorem next_is (a : Int) : wrap_Next.f a = some ((a + 1) % 65536) := by
  unfold wrap_Next.f
  rw [a_u16]
theorem tail (a : Int) : ((wrap_Next.f a).bind fun t108 => ((wrap_Newer.f t108 a).bind fun t109 => (if t109 = true then ((wrap_Next.f a).bind fun t110 => ((wrap_Newer.f a t110).bind fun t111 => (some (!t111)))) else (some false)))) = some true := by
  rw [next_is]
  simp only [Option.bind_some]
  rw [newer_is, newer_is]
  simp only [Option.bind_some]
  rw [if_pos (by rw [decide_eq_true_iff]; omega), decide_eq_false (by omega)]
  rfl
end WrapOrder_
open WrapOrder_ in
theorem WrapOrder : angeluslaw02_WrapOrder.Pure := by
  intro a b wa wb
  have ha := bounds_u16 wa
  have hb := bounds_u16 wb
  refine ⟨5, ?_⟩
  unfold angeluslaw02_WrapOrder.f
  rw [alive, newer_is a b, newer_is b a, xor16 b hb]
  simp only [Option.bind_some, if_true]
  by_cases h : a = b
  · rw [if_pos h, decide_eq_false (p := (((a - b) % 65536 + 32768) % 65536) - 32768 > 0) (by omega), decide_eq_false (by omega)]
    simp only [angeluslaw02_WrapOrder.j0, Bool.false_eq_true, if_false]
    rw [if_pos (by decide)]
    exact tail a
  · rw [if_neg h]
    by_cases h2 : a = (if b < 32768 then b + 32768 else b - 32768)
    · rw [beq_iff_eq.2 h2, decide_eq_false (p := (((a - b) % 65536 + 32768) % 65536) - 32768 > 0) (by split at h2 <;> omega), decide_eq_false (by split at h2 <;> omega)]
      simp only [angeluslaw02_WrapOrder.j0, Bool.false_eq_true, if_false]
      rw [if_pos (by decide)]
      exact tail a
    · rw [beq_eq_false_iff_ne.2 h2]
      by_cases h3 : (((a - b) % 65536 + 32768) % 65536) - 32768 > 0
      · rw [decide_eq_true h3, decide_eq_false (by split at h2 <;> omega)]
        simp only [angeluslaw02_WrapOrder.j0, Bool.false_eq_true, if_false, if_true]
        rw [if_pos (by decide)]
        exact tail a
      · rw [decide_eq_false h3, decide_eq_true (by split at h2 <;> omega)]
        simp only [angeluslaw02_WrapOrder.j0, Bool.false_eq_true, if_false]
        rw [if_pos (by decide)]
        exact tail a

end Go.Proofs.Ytcidkcegfkhfmaa.Pure
