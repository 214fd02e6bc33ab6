/- Bits turned (plain; chapter 03's). -/
import Derived.Test.YtjkngcpmcmffmaaCrc
import Derived.Test.YtjkngcpmcmffmaaBurst
namespace Go.Proofs.Ytjkngcpmcmffmaa.Tu
open Go.RowKit Go.Proofs.Ytjkngcpmcmffmaa.Crc Go.Proofs.Ytjkngcpmcmffmaa.CrcM Go.Proofs.Ytjkngcpmcmffmaa.Burst
theorem xor8 (a b : Int) (ha : 0 ≤ a ∧ a ≤ 255) (hb : 0 ≤ b ∧ b ≤ 255) : Go.bits .xor .u8 a b = ((a.toNat ^^^ b.toNat : Nat) : Int) := by
  obtain ⟨n, rfl⟩ := Int.eq_ofNat_of_zero_le ha.1
  obtain ⟨m, rfl⟩ := Int.eq_ofNat_of_zero_le hb.1
  simp only [bits, BitVec.ofInt_natCast, BitVec.toNat_xor, BitVec.toNat_ofNat, Int.toNat_natCast]
  rw [Nat.mod_eq_of_lt (show n < 2 ^ IntKind.u8.bits from Nat.lt_of_le_of_lt (by omega) (show 255 < 2 ^ 8 by decide)), Nat.mod_eq_of_lt (show m < 2 ^ IntKind.u8.bits from Nat.lt_of_le_of_lt (by omega) (show 255 < 2 ^ 8 by decide))]
  have : n ^^^ m < 2 ^ 8 := Nat.xor_lt_two_pow (by omega) (by omega)
  exact IntWalk.u8_in _ ⟨by omega, by omega⟩
theorem byte_xor {a b : Int} (ha : 0 ≤ a ∧ a ≤ 255) (hb : 0 ≤ b ∧ b ≤ 255) : 0 ≤ Go.bits .xor .u8 a b ∧ Go.bits .xor .u8 a b ≤ 255 := by
  rw [xor8 a b ha hb]
  have : a.toNat ^^^ b.toNat < 2 ^ 8 := Nat.xor_lt_two_pow (by omega) (by omega)
  omega
theorem bytes_set {l : List Int} (hl : Bytes l) (i : Nat) {x : Int} (hx : 0 ≤ x ∧ x ≤ 255) : Bytes (l.set i x) := fun y hy => by
  rcases List.mem_or_eq_of_mem_set hy with h | rfl
  · exact hl y h
  · exact hx
theorem getD_byte {l : List Int} (hl : Bytes l) (i : Nat) : 0 ≤ l.getD i 0 ∧ l.getD i 0 ≤ 255 := by
  rw [List.getD_eq_getElem?_getD]
  cases h : l[i]? with
  | none => simp
  | some x => exact hl x (List.mem_of_getElem? h)

/-- A row's bit. -/
def bitAt (l : List Int) (p : Nat) : Bool := (l.getD (p / 8) 0).toNat.testBit (7 - p % 8)
theorem bitsOf_get (x j : Nat) (h : j < 8) : (bitsOf x)[j]? = some (x.testBit (7 - j)) := by
  unfold bitsOf
  match j, h with
  | 0, _ => rfl
  | 1, _ => rfl
  | 2, _ => rfl
  | 3, _ => rfl
  | 4, _ => rfl
  | 5, _ => rfl
  | 6, _ => rfl
  | 7, _ => rfl
theorem allBits_get : ∀ (l : List Int) (p : Nat), p < 8 * l.length → (allBits l)[p]? = some (bitAt l p)
  | [], p, h => by simp at h
  | x :: l, p, h => by
    rw [allBits_cons]
    by_cases h8 : p < 8
    · rw [List.getElem?_append_left (by simpa [bitsOf] using h8), bitsOf_get _ _ h8]
      unfold bitAt
      rw [show p / 8 = 0 by omega, show p % 8 = p by omega]
      rfl
    · rw [List.getElem?_append_right (by simp [bitsOf]; omega), show (bitsOf x.toNat).length = 8 from rfl, allBits_get l (p - 8) (by simp at h; omega)]
      unfold bitAt
      rw [show p / 8 = (p - 8) / 8 + 1 by omega, show (p - 8) % 8 = p % 8 by omega, List.getD_cons_succ]
/-- The bit at q turned. -/
def flip (l : List Int) (q : Nat) : List Int := l.set (q / 8) (Go.bits .xor .u8 (l.getD (q / 8) 0) (2 ^ (7 - q % 8) : Nat))
theorem pow_byte (q : Nat) : 0 ≤ (((2 ^ (7 - q % 8) : Nat)) : Int) ∧ (((2 ^ (7 - q % 8) : Nat)) : Int) ≤ 255 := by
  have h : 2 ^ (7 - q % 8) ≤ 2 ^ 7 := Nat.pow_le_pow_right (by decide) (by omega)
  generalize 2 ^ (7 - q % 8) = x at h ⊢
  omega
theorem flip_bytes {l : List Int} (hl : Bytes l) (q : Nat) : Bytes (flip l q) := bytes_set hl _ (byte_xor (getD_byte hl _) (pow_byte q))
theorem flip_bit {l : List Int} (hl : Bytes l) (q p : Nat) (hq : q < 8 * l.length) : bitAt (flip l q) p = (bitAt l p ^^ decide (p = q)) := by
  unfold bitAt flip
  by_cases h : p / 8 = q / 8
  · rw [h, List.getD_eq_getElem?_getD, List.getElem?_set_self (by omega)]
    simp only [Option.getD_some]
    rw [xor8 _ _ (getD_byte hl _) (pow_byte q), Int.toNat_natCast, Nat.testBit_xor, Int.toNat_natCast, Nat.testBit_two_pow]
    congr 1
    by_cases h2 : p = q
    · subst h2; simp
    · rw [decide_eq_false h2, decide_eq_false (by omega)]
  · rw [List.getD_eq_getElem?_getD, List.getElem?_set_ne (by omega), decide_eq_false (show ¬p = q from fun e => h (by rw [e])), Bool.xor_false, List.getD_eq_getElem?_getD]

/-- The bits turned in k rounds. -/
def D (at_ bits k p : Nat) : Bool := decide (at_ ≤ p ∧ p < at_ + k) && bits.testBit (15 - (p - at_))
theorem D_zero (at_ bits p : Nat) : D at_ bits 0 p = false := by
  unfold D
  rw [decide_eq_false (by omega)]
  rfl
theorem D_no {at_ bits k : Nat} (p : Nat) (h : bits.testBit (15 - k) = false) : D at_ bits (k + 1) p = D at_ bits k p := by
  unfold D
  by_cases hp : p = at_ + k
  · subst hp
    rw [show at_ + k - at_ = k by omega, h]
    simp
  · congr 1
    exact decide_eq_decide.2 (by omega)
theorem D_yes {at_ bits k : Nat} (p : Nat) (h : bits.testBit (15 - k) = true) : D at_ bits (k + 1) p = (D at_ bits k p ^^ decide (p = at_ + k)) := by
  unfold D
  by_cases hp : p = at_ + k
  · subst hp
    rw [show at_ + k - at_ = k by omega, h]
    simp
  · rw [decide_eq_false hp, Bool.xor_false]
    congr 1
    exact decide_eq_decide.2 (by omega)
/-- What the rounds keep. -/
structure Turns (S cur : List Int) (at_ bits k : Nat) : Prop where
  len : cur.length = S.length
  bytes : Bytes cur
  bit : ∀ p, bitAt cur p = (bitAt S p ^^ D at_ bits k p)
theorem Turns.start {S : List Int} (h : Bytes S) (at_ bits : Nat) : Turns S S at_ bits 0 := ⟨rfl, h, fun p => by rw [D_zero, Bool.xor_false]⟩
theorem Turns.no {S cur : List Int} {at_ bits k : Nat} (h : Turns S cur at_ bits k) (hb : bits.testBit (15 - k) = false) : Turns S cur at_ bits (k + 1) := ⟨h.len, h.bytes, fun p => by rw [D_no p hb, h.bit]⟩
theorem Turns.yes {S cur : List Int} {at_ bits k : Nat} (h : Turns S cur at_ bits k) (hb : bits.testBit (15 - k) = true) (hl : at_ + k < 8 * S.length) : Turns S (flip cur (at_ + k)) at_ bits (k + 1) :=
  ⟨by unfold flip; rw [List.length_set, h.len], flip_bytes h.bytes _, fun p => by rw [flip_bit h.bytes _ p (by rw [h.len]; exact hl), h.bit, D_yes p hb, Bool.xor_assoc]⟩
theorem some_bit (n : Nat) (h0 : n ≠ 0) (h : n < 65536) : ∃ j, j < 16 ∧ n.testBit (15 - j) = true := by
  obtain ⟨i, hi⟩ := Nat.exists_testBit_of_ne_zero h0
  have : i < 16 := by
    rcases Nat.lt_or_ge i 16 with h1 | h1
    · exact h1
    · rw [Nat.testBit_lt_two_pow (Nat.lt_of_lt_of_le h (Nat.pow_le_pow_right (by decide) h1 : 2 ^ 16 ≤ 2 ^ i))] at hi
      cases hi
  exact ⟨15 - i, by omega, by rwa [show 15 - (15 - i) = i by omega]⟩
theorem Turns.unlike {S cur : List Int} {at_ bits : Nat} (h : Turns S cur at_ bits 16) (hat : at_ + 16 ≤ 8 * S.length) (h0 : bits ≠ 0) (h1 : bits < 65536) (s : Int) : goes s S ≠ goes s cur := by
  obtain ⟨j, hj, hjb⟩ := some_bit bits h0 h1
  refine goes_unlike s S cur ((List.range 16).map fun j => bits.testBit (15 - j)) at_ (8 * S.length - at_ - 16) h.len.symm ?_ (by simp) (List.mem_map.2 ⟨j, List.mem_range.2 hj, hjb⟩)
  apply List.ext_getElem?
  intro p
  rw [List.getElem?_zipWith]
  by_cases hp : p < 8 * S.length
  · rw [allBits_get S p hp, allBits_get cur p (by rw [h.len]; exact hp), h.bit p]
    simp only
    rw [show (bitAt S p ^^ (bitAt S p ^^ D at_ bits 16 p)) = D at_ bits 16 p by cases bitAt S p <;> cases D at_ bits 16 p <;> rfl]
    unfold D
    by_cases c1 : p < at_
    · rw [List.append_assoc, List.getElem?_append_left (by simpa using c1), List.getElem?_replicate, if_pos c1, decide_eq_false (by omega)]
      rfl
    · by_cases c2 : p < at_ + 16
      · rw [List.append_assoc, List.getElem?_append_right (by simp; omega), List.getElem?_append_left (by simp; omega), List.length_replicate, List.getElem?_map, List.getElem?_range (by omega), decide_eq_true (by omega)]
        rfl
      · rw [List.getElem?_append_right (by simp; omega), List.getElem?_replicate, if_pos (by simp; omega), decide_eq_false (by omega)]
        rfl
  · have e1 : (allBits S)[p]? = none := List.getElem?_eq_none (by rw [allBits_length]; omega)
    have e2 : (allBits cur)[p]? = none := List.getElem?_eq_none (by rw [allBits_length, h.len]; omega)
    rw [e1, e2]
    exact (List.getElem?_eq_none (by simp; omega)).symm

theorem one_bit (q : Nat) : (128 : Int) / 2 ^ (q % 8) = ((2 ^ (7 - q % 8) : Nat) : Int) := by
  have h : q % 8 < 8 := Nat.mod_lt _ (by decide)
  generalize q % 8 = r at h ⊢
  have : ∀ r : Fin 8, (128 : Int) / 2 ^ r.val = ((2 ^ (7 - r.val) : Nat) : Int) := by decide
  exact this ⟨r, h⟩
theorem and1 (b k : Nat) (hb : b < 65536) : Go.bits .and .u16 ((b : Int) / 2 ^ (15 - k)) 1 = if b.testBit (15 - k) then 1 else 0 := by
  have e : ((b : Int) / 2 ^ (15 - k)) = ((b / 2 ^ (15 - k) : Nat) : Int) := by norm_cast
  have hlt : b / 2 ^ (15 - k) < 65536 := Nat.lt_of_le_of_lt (Nat.div_le_self _ _) hb
  rw [e, show (1 : Int) = ((1 : Nat) : Int) from rfl, and16 _ _ hlt (by decide), Nat.and_one_is_mod, Nat.testBit_eq_decide_div_mod_eq]
  rcases Nat.mod_two_eq_zero_or_one (b / 2 ^ (15 - k)) with h | h <;> simp [h]
end Go.Proofs.Ytjkngcpmcmffmaa.Tu
