/- What crc's sums are, and the document's: both are the remainder bit by bit (CrcMath), of all bytes, from all sums on. -/
import Derived.Test.YtobhjkephinhiaaPCrcIsx1
import Derived.Test.YtobhjkephinhiaaCrcMath
import Derived.OpenShut
namespace Go.Proofs.Ytobhjkephinhiaa.Crc
open Go.RowKit Go.Proofs.Ytobhjkephinhiaa.PCrcIs Go.Proofs.Ytobhjkephinhiaa.CrcM Go.Proofs.YtobhjkephinhiaaW.PrintWords Go.Proofs.YtobhjkephinhiaaW.PrintLast

/-- A byte's bits, the highest first. -/
def bitsOf (x : Nat) : List Bool := [x.testBit 7, x.testBit 6, x.testBit 5, x.testBit 4, x.testBit 3, x.testBit 2, x.testBit 1, x.testBit 0]
def allBits (l : List Int) : List Bool := l.flatMap fun x => bitsOf x.toNat
/-- The sum behind bytes. -/
def goes (s : Int) (l : List Int) : Int := ((crc (BitVec.ofNat 16 s.toNat) (allBits l)).toNat : Int)
def Bytes (l : List Int) : Prop := ∀ x ∈ l, 0 ≤ x ∧ x ≤ 255

theorem a_u16 (n : Int) : IntKind.u16.wrap n = n % 65536 := by simp [IntKind.wrap, IntKind.bits, IntKind.signed]
theorem w64 {x : Int} (h0 : -9223372036854775808 ≤ x) (h1 : x ≤ 9223372036854775807) : wrap64 x = x := by unfold wrap64; omega

theorem xor16 (a b : Nat) (ha : a < 65536) (hb : b < 65536) : Go.bits .xor .u16 (a : Int) (b : Int) = ((a ^^^ b : Nat) : Int) := by
  simp only [bits, BitVec.ofInt_natCast, BitVec.toNat_xor, BitVec.toNat_ofNat]
  rw [Nat.mod_eq_of_lt (show a < 2 ^ IntKind.u16.bits from ha), Nat.mod_eq_of_lt (show b < 2 ^ IntKind.u16.bits from hb), a_u16]
  have : a ^^^ b < 2 ^ 16 := Nat.xor_lt_two_pow ha hb
  omega
theorem and16 (a b : Nat) (ha : a < 65536) (hb : b < 65536) : Go.bits .and .u16 (a : Int) (b : Int) = ((a &&& b : Nat) : Int) := by
  simp only [bits, BitVec.ofInt_natCast, BitVec.toNat_and, BitVec.toNat_ofNat]
  rw [Nat.mod_eq_of_lt (show a < 2 ^ IntKind.u16.bits from ha), Nat.mod_eq_of_lt (show b < 2 ^ IntKind.u16.bits from hb), a_u16]
  have : a &&& b < 2 ^ 16 := Nat.and_lt_two_pow _ hb
  omega

theorem T_nat (v : BitVec 16) : (T v).toNat = if v.toNat &&& 32768 = 0 then v.toNat * 2 % 65536 else (v.toNat * 2 % 65536) ^^^ 4129 := by
  have hm : (v.toNat &&& 32768 = 0) ↔ v.msb = false := by
    have h0 : v.toNat &&& 32768 = (v &&& BitVec.twoPow 16 15).toNat := by rw [BitVec.toNat_and]; rfl
    rw [h0, BitVec.and_twoPow, BitVec.msb_eq_getLsbD_last]
    show _ ↔ v.getLsbD 15 = false
    cases v.getLsbD 15 <;> decide
  unfold T
  by_cases h : v.msb = false
  · rw [if_pos (hm.2 h), h]
    simp [BitVec.toNat_shiftLeft, Nat.shiftLeft_eq]
  · rw [if_neg (fun h2 => h (hm.1 h2))]
    simp only [Bool.not_eq_false] at h
    rw [h]
    simp [BitVec.toNat_shiftLeft, Nat.shiftLeft_eq]

theorem step_loop (d : Nat) : ∀ (k : Nat) (v : BitVec 16) (i : Int), 0 ≤ i → 8 - i = d → d < k → crc_step.l0 k (v.toNat : Int) i = some ((crc v (List.replicate d false)).toNat : Int) := by
  induction d with
  | zero =>
    intro k v i h0 hd hk
    obtain ⟨k, rfl⟩ : ∃ m, k = m + 1 := ⟨k - 1, by omega⟩
    simp only [crc_step.l0]
    rw [if_neg (by omega)]
    rfl
  | succ d ih =>
    intro k v i h0 hd hk
    obtain ⟨k, rfl⟩ : ∃ m, k = m + 1 := ⟨k - 1, by omega⟩
    have hv : v.toNat < 65536 := v.isLt
    simp only [crc_step.l0]
    rw [if_pos (by omega), show (32768 : Int) = ((32768 : Nat) : Int) from rfl, and16 _ _ hv (by decide), w64 (x := i + 1) (by omega) (by omega), a_u16]
    have h2 : ((v.toNat : Int) * 2 % 65536) = ((v.toNat * 2 % 65536 : Nat) : Int) := by omega
    rw [h2, show (4129 : Int) = ((4129 : Nat) : Int) from rfl, xor16 _ _ (by omega) (by decide), List.replicate_succ, crc_cons, bs_false]
    have hT := T_nat v
    by_cases h : v.toNat &&& 32768 = 0
    · rw [if_pos h] at hT
      rw [if_pos (by rw [h]; rfl), ← hT]
      exact ih k (T v) (i + 1) (by omega) (by omega) (by omega)
    · rw [if_neg h] at hT
      rw [if_neg (by omega), ← hT]
      exact ih k (T v) (i + 1) (by omega) (by omega) (by omega)

theorem byte_alone : ∀ b : Fin 256, crc (BitVec.ofNat 16 (b.val * 256)) (List.replicate 8 false) = crc 0#16 (bitsOf b.val) := by decide +kernel

theorem byte_bits (v : BitVec 16) (b : Nat) (hb : b < 256) : crc (v ^^^ BitVec.ofNat 16 (b * 256)) (List.replicate 8 false) = crc v (bitsOf b) := by
  have h1 := crc_xor (List.replicate 8 false) (List.replicate 8 false) v (BitVec.ofNat 16 (b * 256)) rfl
  have h2 := crc_xor (List.replicate 8 false) (bitsOf b) v 0#16 rfl
  rw [show List.zipWith (· ^^ ·) (List.replicate 8 false) (List.replicate 8 false) = List.replicate 8 false from rfl] at h1
  rw [show List.zipWith (· ^^ ·) (List.replicate 8 false) (bitsOf b) = bitsOf b by simp [bitsOf, List.replicate], BitVec.xor_zero] at h2
  rw [h1, h2, byte_alone ⟨b, hb⟩]

theorem step_is (k : Nat) (hk : 9 ≤ k) (s : BitVec 16) (x : Int) (hx : 0 ≤ x ∧ x ≤ 255) : crc_step.f k (s.toNat : Int) x = some ((crc s (bitsOf x.toNat)).toNat : Int) := by
  obtain ⟨b, rfl⟩ := Int.eq_ofNat_of_zero_le hx.1
  have hs : s.toNat < 65536 := s.isLt
  unfold crc_step.f
  rw [a_u16, a_u16]
  have h1 : ((b : Int) % 65536 * 256 % 65536) = ((b * 256 : Nat) : Int) := by omega
  rw [h1, xor16 _ _ hs (by omega), Int.toNat_natCast]
  have h2 : s.toNat ^^^ (b * 256) = (s ^^^ BitVec.ofNat 16 (b * 256)).toNat := by
    rw [BitVec.toNat_xor, BitVec.toNat_ofNat, Nat.mod_eq_of_lt (show b * 256 < 2 ^ 16 by omega)]
  rw [h2, step_loop 8 k _ 0 (by omega) (by omega) (by omega), byte_bits s b (by omega)]

theorem rd_mem {l : List Int} (hl : Bytes l) {i : Int} (h0 : 0 ≤ i) (h1 : i < (l.length : Int)) : 0 ≤ rd l i ∧ rd l i ≤ 255 := by
  unfold rd
  rw [List.getD_eq_getElem?_getD, List.getElem?_eq_getElem (by omega)]
  exact hl _ (List.getElem_mem _)

theorem rd_take (l : List Int) (i : Int) (h0 : 0 ≤ i) (h1 : i < (l.length : Int)) : l.drop i.toNat = rd l i :: l.drop (i + 1).toNat := by
  have hi : i.toNat < l.length := by omega
  rw [List.drop_eq_getElem_cons hi, show (i + 1).toNat = i.toNat + 1 by omega]
  unfold rd
  rw [List.getD_eq_getElem?_getD, List.getElem?_eq_getElem hi]
  rfl

theorem goes_loop (l : List Int) (hl : Bytes l) (hn : l.length ≤ 140737488351232) (d : Nat) : ∀ (k : Nat) (v : BitVec 16) (i : Int), 0 ≤ i → i ≤ (l.length : Int) → (l.length : Int) - i = d → d + 10 < k →
    crc_Goes.l0 k (v.toNat : Int) l (l.length : Int) i = some ((crc v (allBits (l.drop i.toNat))).toNat : Int) := by
  induction d with
  | zero =>
    intro k v i h0 h1 hd hk
    obtain ⟨k, rfl⟩ : ∃ m, k = m + 1 := ⟨k - 1, by omega⟩
    simp only [crc_Goes.l0]
    rw [if_neg (by omega), List.drop_eq_nil_of_le (by omega)]
    rfl
  | succ d ih =>
    intro k v i h0 h1 hd hk
    obtain ⟨k, rfl⟩ : ∃ m, k = m + 1 := ⟨k - 1, by omega⟩
    simp only [crc_Goes.l0]
    rw [if_pos (by omega), if_pos h0, if_pos (by omega), step_is k (by omega) v _ (rd_mem hl h0 (by omega)), w64 (x := i + 1) (by omega) (by omega)]
    simp only [Option.bind_some]
    rw [ih k _ (i + 1) (by omega) (by omega) (by omega) (by omega), rd_take l i h0 (by omega)]
    unfold allBits
    rw [List.flatMap_cons, crc_append]

theorem goes_is (s : Int) (hs : 0 ≤ s ∧ s ≤ 65535) (l : List Int) (hl : Bytes l) (hn : l.length ≤ 140737488351232) : crc_Goes.f (l.length + 20) s l = some (goes s l) := by
  obtain ⟨n, rfl⟩ := Int.eq_ofNat_of_zero_le hs.1
  unfold crc_Goes.f goes
  have h := goes_loop l hl hn l.length (l.length + 20) (BitVec.ofNat 16 n) 0 (by omega) (by omega) (by omega) (by omega)
  rw [BitVec.toNat_ofNat, Nat.mod_eq_of_lt (show n < 2 ^ 16 by omega)] at h
  rw [h]
  rfl

theorem sum_is (l : List Int) (hl : Bytes l) (hn : l.length ≤ 140737488351232) : crc_Sum.f (l.length + 20) l = some (goes 65535 l) := by
  unfold crc_Sum.f
  rw [goes_is 65535 (by omega) l hl hn]
  rfl

theorem goes_bd (s : Int) (l : List Int) : 0 ≤ goes s l ∧ goes s l ≤ 65535 := by
  unfold goes
  have := (crc (BitVec.ofNat 16 s.toNat) (allBits l)).isLt
  omega
theorem goes_append (s : Int) (l m : List Int) : goes (goes s l) m = goes s (l ++ m) := by
  unfold goes
  rw [Int.toNat_natCast, BitVec.ofNat_toNat, BitVec.setWidth_eq]
  unfold allBits
  rw [List.flatMap_append, crc_append]
theorem two_alone : ∀ b : Fin 256, crc (BitVec.ofNat 16 (b.val * 256)) (bitsOf b.val ++ List.replicate 8 false) = 0#16 ∧ crc (BitVec.ofNat 16 b.val) (List.replicate 8 false ++ bitsOf b.val) = 0#16 := by decide +kernel
theorem halves (n : Nat) : (n / 256 * 256) ^^^ (n % 256) = n := by
  apply Nat.eq_of_testBit_eq
  intro i
  rw [Nat.testBit_xor, show n / 256 * 256 = n / 2 ^ 8 * 2 ^ 8 from rfl, show n % 256 = n % 2 ^ 8 from rfl, Nat.testBit_mul_two_pow, Nat.testBit_div_two_pow, Nat.testBit_mod_two_pow]
  by_cases h : 8 ≤ i
  · have h2 : ¬i < 8 := by omega
    rw [show i - 8 + 8 = i by omega]; simp [h, h2]
  · have h2 : i < 8 := by omega
    simp [h, h2]
theorem own_bits (v : BitVec 16) : crc v (bitsOf (v.toNat / 256) ++ bitsOf (v.toNat % 256)) = 0#16 := by
  have hv : v.toNat < 65536 := v.isLt
  have h1 := crc_xor (bitsOf (v.toNat / 256) ++ List.replicate 8 false) (List.replicate 8 false ++ bitsOf (v.toNat % 256)) (BitVec.ofNat 16 (v.toNat / 256 * 256)) (BitVec.ofNat 16 (v.toNat % 256)) rfl
  have h2 : List.zipWith (· ^^ ·) (bitsOf (v.toNat / 256) ++ List.replicate 8 false) (List.replicate 8 false ++ bitsOf (v.toNat % 256)) = bitsOf (v.toNat / 256) ++ bitsOf (v.toNat % 256) := by simp [bitsOf, List.replicate]
  have h3 : BitVec.ofNat 16 (v.toNat / 256 * 256) ^^^ BitVec.ofNat 16 (v.toNat % 256) = v := by
    apply BitVec.eq_of_toNat_eq
    rw [BitVec.toNat_xor, BitVec.toNat_ofNat, BitVec.toNat_ofNat, Nat.mod_eq_of_lt (show v.toNat / 256 * 256 < 2 ^ 16 by omega), Nat.mod_eq_of_lt (show v.toNat % 256 < 2 ^ 16 by omega), halves]
  rw [h2, h3] at h1
  rw [h1, (two_alone ⟨v.toNat / 256, by omega⟩).1, (two_alone ⟨v.toNat % 256, by omega⟩).2]
  rfl

def bitsDown (x : Nat) : Nat → List Bool
  | 0 => []
  | n + 1 => x.testBit n :: bitsDown x n
theorem bs_nat (v : BitVec 16) (b : Bool) : (bs v b).toNat = if v.toNat / 32768 = (if b then 1 else 0) then v.toNat * 2 % 65536 else (v.toNat * 2 % 65536) ^^^ 4129 := by
  have hv : v.toNat < 65536 := v.isLt
  have h1 : (v ^^^ B b) <<< 1 = v <<< 1 := by
    rw [BitVec.shiftLeft_xor_distrib, show B b <<< 1 = 0#16 by cases b <;> decide, BitVec.xor_zero]
  have h2 : (v ^^^ B b).msb = (v.msb ^^ b) := by
    rw [BitVec.msb_xor, show (B b).msb = b by cases b <;> decide]
  have h3 : v.msb = decide (32768 ≤ v.toNat) := by rw [BitVec.msb_eq_decide]
  unfold bs T
  rw [h1, h2, h3]
  by_cases h : 32768 ≤ v.toNat
  · have h4 : v.toNat / 32768 = 1 := by omega
    rw [h4]
    cases b <;> simp [h, BitVec.toNat_shiftLeft, Nat.shiftLeft_eq]
  · have h4 : v.toNat / 32768 = 0 := by omega
    rw [h4]
    cases b <;> simp [h, BitVec.toNat_shiftLeft, Nat.shiftLeft_eq]
theorem bit_of : ∀ x : Fin 256, ∀ j : Fin 8, Go.bits .and .i64 (shr .i64 (wrap64 (x.val : Int)) (IntKind.u64.wrap (j.val : Int))) 1 = if x.val.testBit j.val then 1 else 0 := by decide +kernel
theorem xor64 (a b : Nat) (ha : a < 65536) (hb : b < 65536) : Go.bits .xor .i64 (a : Int) (b : Int) = ((a ^^^ b : Nat) : Int) := by
  simp only [bits, BitVec.ofInt_natCast, BitVec.toNat_xor, BitVec.toNat_ofNat]
  rw [Nat.mod_eq_of_lt (show a < 2 ^ IntKind.i64.bits from Nat.lt_of_lt_of_le ha (by decide)), Nat.mod_eq_of_lt (show b < 2 ^ IntKind.i64.bits from Nat.lt_of_lt_of_le hb (by decide))]
  have : a ^^^ b < 2 ^ 16 := Nat.xor_lt_two_pow ha hb
  exact IntWalk.i64_in _ ⟨by omega, by omega⟩

theorem ref_inner (l : List Int) (m i : Int) (K b : Nat) (hb : b < 256) : ∀ (n : Nat) (v : BitVec 16), n ≤ 8 → angelusref03_Goes.l1 (K + n + 1) (v.toNat : Int) (b : Int) ((n : Int) - 1) l m i = angelusref03_Goes.l0 K ((crc v (bitsDown b n)).toNat : Int) l m (wrap64 (i + 1))
  | 0, v, _ => by
    simp only [angelusref03_Goes.l1]
    rw [if_neg (by omega)]
    rfl
  | n + 1, v, hn => by
    have hv : v.toNat < 65536 := v.isLt
    have ih := ref_inner l m i K b hb n (bs v (b.testBit n)) (by omega)
    have hbit := bit_of ⟨b, hb⟩ ⟨n, by omega⟩
    simp only at hbit
    obtain ⟨M, hM⟩ : ∃ M, M = K + n + 1 := ⟨_, rfl⟩
    rw [← hM] at ih
    rw [show K + (n + 1) + 1 = M + 1 by omega]
    simp only [angelusref03_Goes.l1]
    rw [show ((n + 1 : Nat) : Int) - 1 = (n : Int) by omega, if_pos (by omega), if_pos (by simp [IntKind.wrap, IntKind.signed, IntKind.bits]; omega), hbit,
      w64 (x := (n : Int) - 1) (by omega) (by omega), w64 (x := (v.toNat : Int) * 2) (by omega) (by omega), show Int.tdiv (v.toNat : Int) 32768 = ((v.toNat / 32768 : Nat) : Int) from rfl, w64 (by omega) (by omega),
      show Int.tmod ((v.toNat : Int) * 2) 65536 = ((v.toNat * 2 % 65536 : Nat) : Int) from rfl, show (4129 : Int) = ((4129 : Nat) : Int) from rfl, xor64 _ _ (by omega) (by decide)]
    have hT := bs_nat v (b.testBit n)
    unfold bitsDown
    rw [crc_cons, ← ih]
    cases hc : b.testBit n
    · rw [hc] at hT
      simp only [Bool.false_eq_true, if_false] at hT ⊢
      by_cases h : v.toNat / 32768 = 0
      · rw [if_pos h] at hT
        rw [if_pos (by omega), hT]
      · rw [if_neg h] at hT
        rw [if_neg (by omega), hT]
    · rw [hc] at hT
      simp only [if_true] at hT ⊢
      by_cases h : v.toNat / 32768 = 1
      · rw [if_pos h] at hT
        rw [if_pos (by omega), hT]
      · rw [if_neg h] at hT
        rw [if_neg (by omega), hT]

theorem ref_loop (l : List Int) (hl : Bytes l) (hn : l.length ≤ 140737488351232) (d : Nat) : ∀ (v : BitVec 16) (i : Int), 0 ≤ i → (l.length : Int) - i = d →
    angelusref03_Goes.l0 (10 * d + 1) (v.toNat : Int) l (l.length : Int) i = some ((crc v (allBits (l.drop i.toNat))).toNat : Int) := by
  induction d with
  | zero =>
    intro v i h0 hd
    have hv : v.toNat < 65536 := v.isLt
    simp only [angelusref03_Goes.l0]
    rw [if_neg (by omega), List.drop_eq_nil_of_le (by omega), a_u16, Int.emod_eq_of_lt (by omega) (by omega)]
    rfl
  | succ d ih =>
    intro v i h0 hd
    rw [show 10 * (d + 1) + 1 = ((10 * d + 1) + 8 + 1) + 1 by omega]
    simp only [angelusref03_Goes.l0]
    obtain ⟨h1, h2⟩ := rd_mem hl h0 (show i < (l.length : Int) by omega)
    rw [if_pos (by omega), if_pos h0, if_pos (by omega), rd_take l i h0 (by omega)]
    obtain ⟨b, hb⟩ := Int.eq_ofNat_of_zero_le h1
    rw [hb]
    have h3 := ref_inner l (l.length : Int) i (10 * d + 1) b (by omega) 8 v (by omega)
    rw [show ((8 : Nat) : Int) - 1 = 7 from rfl] at h3
    rw [h3, w64 (by omega) (by omega), ih _ (i + 1) (by omega) (by omega)]
    unfold allBits
    rw [List.flatMap_cons, crc_append, Int.toNat_natCast]
    rfl

theorem ref_is (s : Int) (hs : 0 ≤ s ∧ s ≤ 65535) (l : List Int) (hl : Bytes l) (hn : l.length ≤ 140737488351232) : angelusref03_Goes.f (10 * l.length + 1) s l = some (goes s l) := by
  obtain ⟨n, rfl⟩ := Int.eq_ofNat_of_zero_le hs.1
  unfold angelusref03_Goes.f goes
  have h := ref_loop l hl hn l.length (BitVec.ofNat 16 n) 0 (by omega) (by omega)
  rw [BitVec.toNat_ofNat, Nat.mod_eq_of_lt (show n < 2 ^ 16 by omega)] at h
  rw [w64 (by omega) (by omega), h]
  rfl
theorem refsum_is (l : List Int) (hl : Bytes l) (hn : l.length ≤ 140737488351232) : angelusref03_Sum.f (10 * l.length + 1) l = some (goes 65535 l) := by
  unfold angelusref03_Sum.f
  rw [ref_is 65535 (by omega) l hl hn]
  rfl

/-- The two bytes of a sum. -/
def two (s : Int) : List Int := [s / 256, s % 256]
theorem seal_zero (s : Int) (l : List Int) : goes s (l ++ two (goes s l)) = 0 := by
  rw [← goes_append]
  generalize hv : crc (BitVec.ofNat 16 s.toNat) (allBits l) = v
  have hg : goes s l = (v.toNat : Int) := by unfold goes; rw [hv]
  have hlt : v.toNat < 65536 := v.isLt
  rw [hg]
  unfold goes two allBits
  rw [Int.toNat_natCast, BitVec.ofNat_toNat, BitVec.setWidth_eq]
  have h := own_bits v
  simp only [List.flatMap_cons, List.flatMap_nil, List.append_nil]
  rw [show ((v.toNat : Int) / 256).toNat = v.toNat / 256 by omega, show ((v.toNat : Int) % 256).toNat = v.toNat % 256 by omega, h]
  rfl
theorem Bytes.app {l m : List Int} (hl : Bytes l) (hm : Bytes m) : Bytes (l ++ m) := fun x hx => (List.mem_append.1 hx).elim (hl x) (hm x)
theorem Bytes.two {s : Int} (h : 0 ≤ s ∧ s ≤ 65535) : Bytes (two s) := fun x hx => by
  simp [Crc.two] at hx
  omega
theorem Bytes.take {l : List Int} (hl : Bytes l) (n : Nat) : Bytes (l.take n) := fun x hx => hl x (List.mem_of_mem_take hx)
end Go.Proofs.Ytobhjkephinhiaa.Crc
