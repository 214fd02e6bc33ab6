/- Years, months and days: plain laws. -/
import Derived.Test.YtobhjkephinhiacCivil
namespace Go.Proofs.Ytobhjkephinhiac.Civil
theorem nm11 (y : Int) : nm y 1 1 = yr y - 719162 := by
  unfold nm
  show -719162 + yr y + 1 - 1 + bf y 1 = _
  unfold bf
  omega
theorem gd11 (y : Int) (h0 : 1 ≤ y) (h1 : y ≤ 9999) : gd y 1 1 = true := by
  have := md_bd y 1
  unfold gd
  exact decide_eq_true (by omega)
theorem gd_feb (y : Int) (h0 : 1 ≤ y) (h1 : y ≤ 9999) : gd y 2 29 = lp y := by
  unfold gd md
  cases lp y
  · exact decide_eq_false (by simp)
  · exact decide_eq_true (by simp; omega)
theorem yr_succ (y : Int) (_h : 1 ≤ y) : yr (y + 1) = yr y + (if lp y then 366 else 365) := by
  unfold yr lp
  by_cases a : y % 4 = 0
  · by_cases b : y % 100 = 0
    · by_cases c : y % 400 = 0
      · simp [a, b, c]; omega
      · simp [a, b, c]; omega
    · have c : y % 400 ≠ 0 := by omega
      simp [a, b, c]; omega
  · have b : y % 100 ≠ 0 := by omega
    have c : y % 400 ≠ 0 := by omega
    simp [a, b, c]; omega
theorem yr_cent (y : Int) : yr (y + 400) = yr y + 146097 := by unfold yr; omega


theorem yr_le {a b : Int} (ha : 1 ≤ a) (h : a ≤ b) : yr a ≤ yr b := by
  obtain ⟨n, hn⟩ := Int.eq_ofNat_of_zero_le (show 0 ≤ b - a by omega)
  obtain rfl : b = a + n := by omega
  clear h hn
  induction n with
  | zero => simp
  | succ n ih =>
    have := yr_succ (a + n) (by omega)
    have e : a + ((n + 1 : Nat) : Int) = a + n + 1 := by omega
    rw [e, this]
    split <;> omega
theorem md_leap (y : Int) : md y 2 = if lp y then 29 else 28 := by unfold md; simp
theorem bf13 (y : Int) : bf y 13 = if lp y then 366 else 365 := by
  simp only [bf]
  cases h : lp y <;> simp [md, h]
theorem bf_mono (y : Int) (a : Nat) (ha : 1 ≤ a) : ∀ n : Nat, bf y a ≤ bf y (a + n)
  | 0 => Int.le_refl _
  | n + 1 => by
    have h := bf_mono y a ha n
    have h2 := bf_succ y (a + n) (by omega)
    have h3 := md_bd y (a + n : Nat)
    rw [← Nat.add_assoc, h2]
    omega
/-- A later date has a greater number. -/
theorem nm_lt {y m d y' m' d' : Int} (g : gd y m d = true) (g' : gd y' m' d' = true) (h : y < y' ∨ y = y' ∧ (m < m' ∨ m = m' ∧ d < d')) : nm y m d < nm y' m' d' := by
  obtain ⟨h0, h1, h2, h3, h4, h5⟩ := of_decide_eq_true g
  obtain ⟨k0, k1, k2, k3, k4, k5⟩ := of_decide_eq_true g'
  obtain ⟨a, rfl⟩ := Int.eq_ofNat_of_zero_le (show 0 ≤ m by omega)
  obtain ⟨b, rfl⟩ := Int.eq_ofNat_of_zero_le (show 0 ≤ m' by omega)
  unfold nm
  rw [Int.toNat_natCast, Int.toNat_natCast]
  have hs := bf_succ y a (by omega)
  have hbb := bf_bd y' b
  rcases h with h | ⟨rfl, h | ⟨h, h'⟩⟩
  · have hy := yr_succ y h0
    have hle := yr_le (a := y + 1) (b := y') (by omega) (by omega)
    have hm := bf_mono y (a + 1) (by omega) (12 - a)
    rw [show a + 1 + (12 - a) = 13 by omega, bf13] at hm
    split at hy <;> simp_all <;> omega
  · have hm := bf_mono y (a + 1) (by omega) (b - (a + 1))
    rw [show a + 1 + (b - (a + 1)) = b by omega] at hm
    omega
  · obtain rfl : a = b := by omega
    omega
theorem nm_inj {y m d y' m' d' : Int} (g : gd y m d = true) (g' : gd y' m' d' = true) (h : nm y m d = nm y' m' d') : y = y' ∧ m = m' ∧ d = d' := by
  rcases Int.lt_trichotomy y y' with h1 | h1 | h1
  · have := nm_lt g g' (.inl h1); omega
  · rcases Int.lt_trichotomy m m' with h2 | h2 | h2
    · have := nm_lt g g' (.inr ⟨h1, .inl h2⟩); omega
    · rcases Int.lt_trichotomy d d' with h3 | h3 | h3
      · have := nm_lt g g' (.inr ⟨h1, .inr ⟨h2, h3⟩⟩); omega
      · exact ⟨h1, h2, h3⟩
      · have := nm_lt g' g (.inr ⟨h1.symm, .inr ⟨h2.symm, h3⟩⟩); omega
    · have := nm_lt g' g (.inr ⟨h1.symm, .inl h2⟩); omega
  · have := nm_lt g' g (.inl h1); omega
end Go.Proofs.Ytobhjkephinhiac.Civil
