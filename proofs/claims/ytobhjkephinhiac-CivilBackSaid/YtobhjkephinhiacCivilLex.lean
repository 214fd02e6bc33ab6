/- Texts of dates, in their order: plain laws. -/
import Derived.Test.YtobhjkephinhiacText
import Derived.Test.YtobhjkephinhiacCivilMath
namespace Go.Proofs.Ytobhjkephinhiac.Civil
open Go.RowKit Go.Proofs.Ytobhjkephinhiac.Bk Go.Proofs.Ytobhjkephinhiac.Rw Go.Proofs.Ytobhjkephinhiac.Ow Go.Proofs.Ytobhjkephinhiac.Kp Go.Proofs.Ytobhjkephinhiac.Str

/-- Which of two rows comes first. -/
def ltl : List Int → List Int → Bool
  | [], [] => false
  | [], _ :: _ => true
  | _ :: _, [] => false
  | x :: l, y :: m => decide (x < y) || (decide (x = y) && ltl l m)
theorem ltl_append : ∀ (a b c d : List Int), a.length = b.length → ltl (a ++ c) (b ++ d) = (ltl a b || (decide (a = b) && ltl c d))
  | [], [], c, d, _ => by simp [ltl]
  | [], _ :: _, _, _, h => by simp at h
  | _ :: _, [], _, _, h => by simp at h
  | x :: a, y :: b, c, d, h => by
    have ih := ltl_append a b c d (by simpa using h)
    rw [List.cons_append, List.cons_append, show ltl (x :: (a ++ c)) (y :: (b ++ d)) = (decide (x < y) || (decide (x = y) && ltl (a ++ c) (b ++ d))) from rfl, show ltl (x :: a) (y :: b) = (decide (x < y) || (decide (x = y) && ltl a b)) from rfl, ih]
    by_cases hxy : x = y
    · subst hxy
      simp
    · simp [hxy]
theorem digs_lt : ∀ (s : Nat) (n m : Int), 0 ≤ n → n < 10 ^ s → 0 ≤ m → m < 10 ^ s → ltl (digs n s) (digs m s) = decide (n < m) ∧ (digs n s = digs m s ↔ n = m)
  | 0, n, m, h0, h1, h2, h3 => by
    have e0 : n = 0 := by simp at h1; omega
    have e1 : m = 0 := by simp at h3; omega
    subst e0 e1
    simp [digs, ltl]
  | s + 1, n, m, h0, h1, h2, h3 => by
    rw [Int.pow_succ] at h1 h3
    have ih := digs_lt s (n / 10) (m / 10) (by omega) (by omega) (by omega) (by omega)
    constructor
    · unfold digs
      rw [ltl_append _ _ _ _ (by rw [digs_length, digs_length]), ih.1]
      simp only [ih.2, ltl]
      by_cases a : n / 10 < m / 10
      · have : n < m := by omega
        simp [a, this]
      · by_cases b : n / 10 = m / 10
        · by_cases c : n % 10 < m % 10
          · have : n < m := by omega
            simp [b, c, this]
          · have : ¬ n < m := by omega
            simp [b, c, this]
        · have : ¬ n < m := by omega
          simp [a, b, this]
    · unfold digs
      constructor
      · intro h
        have h4 := List.append_inj' h rfl
        have h5 := ih.2.1 h4.1
        have h6 := h4.2
        simp at h6
        omega
      · rintro rfl
        rfl
theorem tx_lt {y m d y' m' d' : Int} (g : gd y m d = true) (g' : gd y' m' d' = true) : ltl (tx y m d) (tx y' m' d') = decide (y < y' ∨ y = y' ∧ (m < m' ∨ m = m' ∧ d < d')) := by
  obtain ⟨h0, h1, h2, h3, h4, h5⟩ := of_decide_eq_true g
  obtain ⟨k0, k1, k2, k3, k4, k5⟩ := of_decide_eq_true g'
  have hmd := md_bd y m
  have hmd' := md_bd y' m'
  have A := digs_lt 4 y y' (by omega) (by show y < 10000; omega) (by omega) (by show y' < 10000; omega)
  have B := digs_lt 2 m m' (by omega) (by show m < 100; omega) (by omega) (by show m' < 100; omega)
  have C := digs_lt 2 d d' (by omega) (by show d < 100; omega) (by omega) (by show d' < 100; omega)
  unfold tx
  rw [ltl_append _ _ _ _ (by simp [digs_length]), ltl_append _ _ _ _ (by simp [digs_length]), ltl_append _ _ _ _ (by simp [digs_length]), ltl_append _ _ _ _ (by simp [digs_length]), A.1, B.1, C.1]
  have e45 : ltl [45] [45] = false := by decide
  rw [e45]
  have E1 : (digs y 4 ++ [45] = digs y' 4 ++ [45]) ↔ y = y' := by rw [List.append_cancel_right_eq, A.2]
  have E2 : (digs y 4 ++ [45] ++ digs m 2 = digs y' 4 ++ [45] ++ digs m' 2) ↔ (y = y' ∧ m = m') := by
    constructor
    · intro h
      have h2 := List.append_inj' h (by simp [digs_length])
      exact ⟨E1.1 h2.1, B.2.1 h2.2⟩
    · rintro ⟨rfl, rfl⟩; rfl
  have E3 : (digs y 4 ++ [45] ++ digs m 2 ++ [45] = digs y' 4 ++ [45] ++ digs m' 2 ++ [45]) ↔ (y = y' ∧ m = m') := by rw [List.append_cancel_right_eq, E2]
  simp only [E1, E2, E3, A.2]
  by_cases a : y < y'
  · simp [a]
  · by_cases b : y = y'
    · by_cases c : m < m'
      · simp [b, c]
      · by_cases e : m = m'
        · simp [b, e]
        · simp [b, c, e]
    · simp [a, b]

theorem u8_lt {x y : Int} (hx : 0 ≤ x ∧ x ≤ 255) (hy : 0 ≤ y ∧ y ≤ 255) : decide (UInt8.ofNat x.toNat < UInt8.ofNat y.toNat) = decide (x < y) ∧ (UInt8.ofNat x.toNat == UInt8.ofNat y.toNat) = decide (x = y) := by
  have h1 : (UInt8.ofNat x.toNat).toNat = x.toNat := by rw [UInt8.toNat_ofNat']; omega
  have h2 : (UInt8.ofNat y.toNat).toNat = y.toNat := by rw [UInt8.toNat_ofNat']; omega
  constructor
  · rw [decide_eq_decide, UInt8.lt_iff_toNat_lt, h1, h2]
    omega
  · by_cases e : x = y
    · subst e; simp
    · have : UInt8.ofNat x.toNat ≠ UInt8.ofNat y.toNat := fun h => e (by have := congrArg UInt8.toNat h; rw [h1, h2] at this; omega)
      simp [e, this]
theorem less_str : ∀ (l m : List Int), (∀ x ∈ l, 0 ≤ x ∧ x ≤ 255) → (∀ x ∈ m, 0 ≤ x ∧ x ≤ 255) → Op.bytesLess (l.map fun n => UInt8.ofNat n.toNat) (m.map fun n => UInt8.ofNat n.toNat) = ltl l m
  | [], [], _, _ => rfl
  | [], _ :: _, _, _ => rfl
  | _ :: _, [], _, _ => rfl
  | x :: l, y :: m, hl, hm => by
    have ih := less_str l m (fun z hz => hl z (by simp [hz])) (fun z hz => hm z (by simp [hz]))
    have h := u8_lt (hl x (by simp)) (hm y (by simp))
    rw [List.map_cons, List.map_cons, show ltl (x :: l) (y :: m) = (decide (x < y) || (decide (x = y) && ltl l m)) from rfl, ← ih, ← h.1, ← h.2]
    rfl
theorem str_toList (l : List Int) : (str l).toList = l.map fun n => UInt8.ofNat n.toNat := by
  rw [ByteArray.toList_eq]
  unfold str
  rw [str_data]
  simp
theorem tx_bytes {y m d : Int} (g : gd y m d = true) : ∀ x ∈ tx y m d, 0 ≤ x ∧ x ≤ 255 := by
  obtain ⟨h0, h1, h2, h3, h4, h5⟩ := of_decide_eq_true g
  intro x hx
  unfold tx at hx
  simp only [List.mem_append, List.mem_singleton] at hx
  rcases hx with (((hx | hx) | hx) | hx) | hx
  · exact digs_bytes 4 y (by omega) x hx
  · omega
  · exact digs_bytes 2 m (by omega) x hx
  · omega
  · exact digs_bytes 2 d (by omega) x hx
/-- Of two dates' texts, which is less, and whether they are the same. -/
theorem tx_less {y m d y' m' d' : Int} (g : gd y m d = true) (g' : gd y' m' d' = true) : Op.bytesLess (str (tx y m d)).toList (str (tx y' m' d')).toList = decide (y < y' ∨ y = y' ∧ (m < m' ∨ m = m' ∧ d < d')) := by
  rw [str_toList, str_toList, less_str _ _ (tx_bytes g) (tx_bytes g'), tx_lt g g']
theorem tx_ne {y m d y' m' d' : Int} (g : gd y m d = true) (g' : gd y' m' d' = true) (h : y < y' ∨ y = y' ∧ (m < m' ∨ m = m' ∧ d < d')) : ((str (tx y m d)).toList == (str (tx y' m' d')).toList) = false ∧ ((str (tx y' m' d')).toList == (str (tx y m d)).toList) = false := by
  have h1 := tx_less g g'
  rw [decide_eq_true h] at h1
  have h0 : ∀ l : List UInt8, Op.bytesLess l l = false := fun l => by
    induction l with
    | nil => rfl
    | cons a l ih => simp [Op.bytesLess, ih]
  constructor
  · rw [beq_eq_false_iff_ne]
    intro e
    rw [e, h0] at h1
    cases h1
  · rw [beq_eq_false_iff_ne]
    intro e
    rw [e, h0] at h1
    cases h1
end Go.Proofs.Ytobhjkephinhiac.Civil
