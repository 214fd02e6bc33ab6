/- What crc's sums are, and the document's: both are the remainder bit by bit (CrcMath), of all bytes, from all sums on. -/
import Derived.Test.YtjkngcpmcmffmaaChecked
import Derived.IntWalk
import Derived.Test.YtjkngcpmcmffmaaCrcMath
import Derived.OpenShut
namespace Go.Proofs.Ytjkngcpmcmffmaa.Crc
open Go.RowKit Go.Proofs.Ytjkngcpmcmffmaa.CrcM

/-- A byte's bits, the highest first. -/
def bitsOf (x : Nat) : List Bool := [x.testBit 7, x.testBit 6, x.testBit 5, x.testBit 4, x.testBit 3, x.testBit 2, x.testBit 1, x.testBit 0]
def allBits (l : List Int) : List Bool := l.flatMap fun x => bitsOf x.toNat
/-- The sum behind bytes. -/
def goes (s : Int) (l : List Int) : Int := ((crc (BitVec.ofNat 16 s.toNat) (allBits l)).toNat : Int)
def Bytes (l : List Int) : Prop := ∀ x ∈ l, 0 ≤ x ∧ x ≤ 255

theorem a_u16 (n : Int) : IntKind.u16.wrap n = n % 65536 := by simp [IntKind.wrap, IntKind.bits, IntKind.signed]
theorem w64 {x : Int} (h0 : -9223372036854775808 ≤ x) (h1 : x ≤ 9223372036854775807) : wrap64 x = x := by unfold wrap64; omega

theorem xor16 (a b : Nat) (ha : a < 65536) (hb : b < 65536) : Go.bits .xor .u16 (a : Int) (b : Int) = ((a ^^^ b : Nat) : Int) := by
  simp only [bits, BitVec.ofInt_natCast, BitVec.toNat_xor, BitVec.toNat_ofNat]
  rw [Nat.mod_eq_of_lt (show a < 2 ^ IntKind.u16.bits from ha), Nat.mod_eq_of_lt (show b < 2 ^ IntKind.u16.bits from hb), a_u16]
  have : a ^^^ b < 2 ^ 16 := Nat.xor_lt_two_pow ha hb
  omega
theorem and16 (a b : Nat) (ha : a < 65536) (hb : b < 65536) : Go.bits .and .u16 (a : Int) (b : Int) = ((a &&& b : Nat) : Int) := by
  simp only [bits, BitVec.ofInt_natCast, BitVec.toNat_and, BitVec.toNat_ofNat]
  rw [Nat.mod_eq_of_lt (show a < 2 ^ IntKind.u16.bits from ha), Nat.mod_eq_of_lt (show b < 2 ^ IntKind.u16.bits from hb), a_u16]
  have : a &&& b < 2 ^ 16 := Nat.and_lt_two_pow _ hb
  omega

theorem T_nat (v : BitVec 16) : (T v).toNat = if v.toNat &&& 32768 = 0 then v.toNat * 2 % 65536 else (v.toNat * 2 % 65536) ^^^ 4129 := by
  have hm : (v.toNat &&& 32768 = 0) ↔ v.msb = false := by
    have h0 : v.toNat &&& 32768 = (v &&& BitVec.twoPow 16 15).toNat := by rw [BitVec.toNat_and]; rfl
    rw [h0, BitVec.and_twoPow, BitVec.msb_eq_getLsbD_last]
    show _ ↔ v.getLsbD 15 = false
    cases v.getLsbD 15 <;> decide
  unfold T
  by_cases h : v.msb = false
  · rw [if_pos (hm.2 h), h]
    simp [BitVec.toNat_shiftLeft, Nat.shiftLeft_eq]
  · rw [if_neg (fun h2 => h (hm.1 h2))]
    simp only [Bool.not_eq_false] at h
    rw [h]
    simp [BitVec.toNat_shiftLeft, Nat.shiftLeft_eq]

theorem byte_alone : ∀ b : Fin 256, crc (BitVec.ofNat 16 (b.val * 256)) (List.replicate 8 false) = crc 0#16 (bitsOf b.val) := by decide +kernel

theorem byte_bits (v : BitVec 16) (b : Nat) (hb : b < 256) : crc (v ^^^ BitVec.ofNat 16 (b * 256)) (List.replicate 8 false) = crc v (bitsOf b) := by
  have h1 := crc_xor (List.replicate 8 false) (List.replicate 8 false) v (BitVec.ofNat 16 (b * 256)) rfl
  have h2 := crc_xor (List.replicate 8 false) (bitsOf b) v 0#16 rfl
  rw [show List.zipWith (· ^^ ·) (List.replicate 8 false) (List.replicate 8 false) = List.replicate 8 false from rfl] at h1
  rw [show List.zipWith (· ^^ ·) (List.replicate 8 false) (bitsOf b) = bitsOf b by simp [bitsOf, List.replicate], BitVec.xor_zero] at h2
  rw [h1, h2, byte_alone ⟨b, hb⟩]

theorem goes_bd (s : Int) (l : List Int) : 0 ≤ goes s l ∧ goes s l ≤ 65535 := by
  unfold goes
  have := (crc (BitVec.ofNat 16 s.toNat) (allBits l)).isLt
  omega
theorem goes_append (s : Int) (l m : List Int) : goes (goes s l) m = goes s (l ++ m) := by
  unfold goes
  rw [Int.toNat_natCast, BitVec.ofNat_toNat, BitVec.setWidth_eq]
  unfold allBits
  rw [List.flatMap_append, crc_append]
theorem two_alone : ∀ b : Fin 256, crc (BitVec.ofNat 16 (b.val * 256)) (bitsOf b.val ++ List.replicate 8 false) = 0#16 ∧ crc (BitVec.ofNat 16 b.val) (List.replicate 8 false ++ bitsOf b.val) = 0#16 := by decide +kernel
theorem halves (n : Nat) : (n / 256 * 256) ^^^ (n % 256) = n := by
  apply Nat.eq_of_testBit_eq
  intro i
  rw [Nat.testBit_xor, show n / 256 * 256 = n / 2 ^ 8 * 2 ^ 8 from rfl, show n % 256 = n % 2 ^ 8 from rfl, Nat.testBit_mul_two_pow, Nat.testBit_div_two_pow, Nat.testBit_mod_two_pow]
  by_cases h : 8 ≤ i
  · have h2 : ¬i < 8 := by omega
    rw [show i - 8 + 8 = i by omega]; simp [h, h2]
  · have h2 : i < 8 := by omega
    simp [h, h2]
theorem own_bits (v : BitVec 16) : crc v (bitsOf (v.toNat / 256) ++ bitsOf (v.toNat % 256)) = 0#16 := by
  have hv : v.toNat < 65536 := v.isLt
  have h1 := crc_xor (bitsOf (v.toNat / 256) ++ List.replicate 8 false) (List.replicate 8 false ++ bitsOf (v.toNat % 256)) (BitVec.ofNat 16 (v.toNat / 256 * 256)) (BitVec.ofNat 16 (v.toNat % 256)) rfl
  have h2 : List.zipWith (· ^^ ·) (bitsOf (v.toNat / 256) ++ List.replicate 8 false) (List.replicate 8 false ++ bitsOf (v.toNat % 256)) = bitsOf (v.toNat / 256) ++ bitsOf (v.toNat % 256) := by simp [bitsOf, List.replicate]
  have h3 : BitVec.ofNat 16 (v.toNat / 256 * 256) ^^^ BitVec.ofNat 16 (v.toNat % 256) = v := by
    apply BitVec.eq_of_toNat_eq
    rw [BitVec.toNat_xor, BitVec.toNat_ofNat, BitVec.toNat_ofNat, Nat.mod_eq_of_lt (show v.toNat / 256 * 256 < 2 ^ 16 by omega), Nat.mod_eq_of_lt (show v.toNat % 256 < 2 ^ 16 by omega), halves]
  rw [h2, h3] at h1
  rw [h1, (two_alone ⟨v.toNat / 256, by omega⟩).1, (two_alone ⟨v.toNat % 256, by omega⟩).2]
  rfl

def bitsDown (x : Nat) : Nat → List Bool
  | 0 => []
  | n + 1 => x.testBit n :: bitsDown x n
theorem bs_nat (v : BitVec 16) (b : Bool) : (bs v b).toNat = if v.toNat / 32768 = (if b then 1 else 0) then v.toNat * 2 % 65536 else (v.toNat * 2 % 65536) ^^^ 4129 := by
  have hv : v.toNat < 65536 := v.isLt
  have h1 : (v ^^^ B b) <<< 1 = v <<< 1 := by
    rw [BitVec.shiftLeft_xor_distrib, show B b <<< 1 = 0#16 by cases b <;> decide, BitVec.xor_zero]
  have h2 : (v ^^^ B b).msb = (v.msb ^^ b) := by
    rw [BitVec.msb_xor, show (B b).msb = b by cases b <;> decide]
  have h3 : v.msb = decide (32768 ≤ v.toNat) := by rw [BitVec.msb_eq_decide]
  unfold bs T
  rw [h1, h2, h3]
  by_cases h : 32768 ≤ v.toNat
  · have h4 : v.toNat / 32768 = 1 := by omega
    rw [h4]
    cases b <;> simp [h, BitVec.toNat_shiftLeft, Nat.shiftLeft_eq]
  · have h4 : v.toNat / 32768 = 0 := by omega
    rw [h4]
    cases b <;> simp [h, BitVec.toNat_shiftLeft, Nat.shiftLeft_eq]
theorem xor64 (a b : Nat) (ha : a < 65536) (hb : b < 65536) : Go.bits .xor .i64 (a : Int) (b : Int) = ((a ^^^ b : Nat) : Int) := by
  simp only [bits, BitVec.ofInt_natCast, BitVec.toNat_xor, BitVec.toNat_ofNat]
  rw [Nat.mod_eq_of_lt (show a < 2 ^ IntKind.i64.bits from Nat.lt_of_lt_of_le ha (by decide)), Nat.mod_eq_of_lt (show b < 2 ^ IntKind.i64.bits from Nat.lt_of_lt_of_le hb (by decide))]
  have : a ^^^ b < 2 ^ 16 := Nat.xor_lt_two_pow ha hb
  exact IntWalk.i64_in _ ⟨by omega, by omega⟩

/-- The two bytes of a sum. -/
def two (s : Int) : List Int := [s / 256, s % 256]
theorem seal_zero (s : Int) (l : List Int) : goes s (l ++ two (goes s l)) = 0 := by
  rw [← goes_append]
  generalize hv : crc (BitVec.ofNat 16 s.toNat) (allBits l) = v
  have hg : goes s l = (v.toNat : Int) := by unfold goes; rw [hv]
  have hlt : v.toNat < 65536 := v.isLt
  rw [hg]
  unfold goes two allBits
  rw [Int.toNat_natCast, BitVec.ofNat_toNat, BitVec.setWidth_eq]
  have h := own_bits v
  simp only [List.flatMap_cons, List.flatMap_nil, List.append_nil]
  rw [show ((v.toNat : Int) / 256).toNat = v.toNat / 256 by omega, show ((v.toNat : Int) % 256).toNat = v.toNat % 256 by omega, h]
  rfl
theorem Bytes.app {l m : List Int} (hl : Bytes l) (hm : Bytes m) : Bytes (l ++ m) := fun x hx => (List.mem_append.1 hx).elim (hl x) (hm x)
theorem Bytes.two {s : Int} (h : 0 ≤ s ∧ s ≤ 65535) : Bytes (two s) := fun x hx => by
  simp [Crc.two] at hx
  omega
theorem Bytes.take {l : List Int} (hl : Bytes l) (n : Nat) : Bytes (l.take n) := fun x hx => hl x (List.mem_of_mem_take hx)
end Go.Proofs.Ytjkngcpmcmffmaa.Crc
