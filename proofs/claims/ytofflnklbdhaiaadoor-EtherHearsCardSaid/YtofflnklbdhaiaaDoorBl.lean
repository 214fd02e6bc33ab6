/- The bits of a number, rising; the lowest one taken away. -/
import Derived.Lib.TrailingZeros
namespace Go.Proofs.YtofflnklbdhaiaaDoor.Bl
/-- The set bits, rising. -/
def bl (x : Nat) : List Nat := (List.range' 0 64).filter fun i => x.testBit i
theorem filter_same {p q : Nat → Bool} {k : Nat} (h : ∀ j, k < j → p j = q j) : ∀ (n s : Nat), k < s → (List.range' s n).filter p = (List.range' s n).filter q
  | 0, _, _ => rfl
  | n + 1, s, hs => by rw [List.range'_succ, List.filter_cons, List.filter_cons, h s hs, filter_same h n (s + 1) (by omega)]
theorem filter_first {p q : Nat → Bool} {k : Nat} (h0 : ∀ j, j < k → p j = false) (h1 : p k = true) (h2 : ∀ j, j ≤ k → q j = false) (h : ∀ j, k < j → p j = q j) :
    ∀ (n s : Nat), s ≤ k → k < s + n → (List.range' s n).filter p = k :: (List.range' s n).filter q
  | 0, s, hs, hk => by omega
  | n + 1, s, hs, hk => by
    rw [List.range'_succ, List.filter_cons, List.filter_cons, h2 s hs]
    by_cases e : s = k
    · subst e
      rw [h1, filter_same h n (s + 1) (by omega)]
      rfl
    · rw [h0 s (by omega), filter_first h0 h1 h2 h n (s + 1) (by omega) (by omega)]
      rfl
theorem bl_zero : bl 0 = [] := by simp [bl]
theorem low_bits {x k m : Nat} (hx : x = 2 ^ k * (2 * m + 1)) (j : Nat) : x.testBit j = (if j < k + 1 then decide (k = j) else m.testBit (j - (k + 1))) ∧ (x &&& (x - 1)).testBit j = (if j < k + 1 then false else m.testBit (j - (k + 1))) := by
  have hp : 0 < 2 ^ k := Nat.two_pow_pos k
  have e1 : x = 2 ^ (k + 1) * m + 2 ^ k := by rw [hx, Nat.pow_succ, Nat.mul_add, Nat.mul_one, Nat.mul_assoc]
  have e2 : x - 1 = 2 ^ (k + 1) * m + (2 ^ k - 1) := by omega
  have l1 : 2 ^ k < 2 ^ (k + 1) := by rw [Nat.pow_succ]; omega
  have l2 : 2 ^ k - 1 < 2 ^ (k + 1) := by omega
  have t1 : x.testBit j = (if j < k + 1 then decide (k = j) else m.testBit (j - (k + 1))) := by
    rw [e1, Nat.testBit_two_pow_mul_add _ l1, Nat.testBit_two_pow]
  have t2 : (x - 1).testBit j = (if j < k + 1 then decide (j < k) else m.testBit (j - (k + 1))) := by
    rw [e2, Nat.testBit_two_pow_mul_add _ l2, Nat.testBit_two_pow_sub_one]
  refine ⟨t1, ?_⟩
  rw [Nat.testBit_and, t1, t2]
  split
  · by_cases h : k = j <;> simp [h]
  · simp
theorem bl_next {x : Nat} (h0 : x ≠ 0) (h : x < 2 ^ 64) : bl x = Lib.ctz 64 x :: bl (x &&& (x - 1)) ∧ Lib.ctz 64 x < 64 ∧ x &&& (x - 1) < x := by
  obtain ⟨m, hm, hk⟩ := Lib.ctzFrom_spec 64 x (by omega) h
  have e : Lib.ctz 64 x = Lib.ctzFrom 64 x := by simp [Lib.ctz, h0]
  rw [e]
  generalize Lib.ctzFrom 64 x = k at hm hk
  have hb := fun j => low_bits hm j
  refine ⟨filter_first ?_ ?_ ?_ ?_ 64 0 (Nat.zero_le _) (by omega), hk, ?_⟩
  · intro j hj
    show x.testBit j = false
    rw [(hb j).1, if_pos (by omega)]
    simp; omega
  · show x.testBit k = true
    rw [(hb k).1, if_pos (by omega)]
    simp
  · intro j hj
    show (x &&& (x - 1)).testBit j = false
    rw [(hb j).2, if_pos (by omega)]
  · intro j hj
    show x.testBit j = (x &&& (x - 1)).testBit j
    rw [(hb j).1, (hb j).2, if_neg (by omega), if_neg (by omega)]
  · have := Nat.and_le_right (n := x) (m := x - 1)
    omega
theorem bl_length (x : Nat) : (bl x).length ≤ 64 := by
  have := List.length_filter_le (fun i => x.testBit i) (List.range' 0 64)
  simpa [bl] using this
theorem bl_mem {x i : Nat} : i ∈ bl x ↔ i < 64 ∧ x.testBit i = true := by
  simp [bl]
end Go.Proofs.YtofflnklbdhaiaaDoor.Bl
