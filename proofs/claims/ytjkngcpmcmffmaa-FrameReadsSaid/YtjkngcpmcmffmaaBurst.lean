/- What a burst does to a sum of bytes. Plain Lean. -/
import Derived.Test.YtjkngcpmcmffmaaCrc
namespace Go.Proofs.Ytjkngcpmcmffmaa.Burst
open Go.Proofs.Ytjkngcpmcmffmaa.Crc Go.Proofs.Ytjkngcpmcmffmaa.CrcM

theorem allBits_append (l m : List Int) : allBits (l ++ m) = allBits l ++ allBits m := by unfold allBits; rw [List.flatMap_append]
theorem allBits_cons (x : Int) (m : List Int) : allBits (x :: m) = bitsOf x.toNat ++ allBits m := by unfold allBits; rw [List.flatMap_cons]
theorem allBits_length : ∀ l : List Int, (allBits l).length = 8 * l.length
  | [] => rfl
  | x :: l => by rw [allBits_cons, List.length_append, allBits_length l]; simp [bitsOf]; omega
theorem zip_self : ∀ l : List Bool, List.zipWith (· ^^ ·) l l = List.replicate l.length false
  | [] => rfl
  | b :: l => by rw [List.zipWith_cons_cons, zip_self l, Bool.xor_self, List.length_cons, List.replicate_succ]
theorem bits_xor (a b : Nat) : List.zipWith (· ^^ ·) (bitsOf a) (bitsOf (a ^^^ b)) = bitsOf b := by
  have h : ∀ p q : Bool, (p ^^ (p ^^ q)) = q := by decide
  simp only [bitsOf, List.zipWith_cons_cons, List.zipWith_nil_left, Nat.testBit_xor, h]

/-- Two rows of bits that differ in a burst alone have unlike remainders. -/
theorem crc_unlike (s : BitVec 16) (a b d : List Bool) (p q : Nat) (hl : a.length = b.length) (hz : List.zipWith (· ^^ ·) a b = List.replicate p false ++ d ++ List.replicate q false) (hd : d.length ≤ 16) (ht : true ∈ d) : crc s a ≠ crc s b := by
  intro h
  have h1 := crc_xor a b s s hl
  rw [BitVec.xor_self, h, BitVec.xor_self, hz] at h1
  exact burst d hd ht p q h1
theorem goes_unlike (s : Int) (l m : List Int) (d : List Bool) (p q : Nat) (hl : l.length = m.length) (hz : List.zipWith (· ^^ ·) (allBits l) (allBits m) = List.replicate p false ++ d ++ List.replicate q false) (hd : d.length ≤ 16) (ht : true ∈ d) : goes s l ≠ goes s m := by
  unfold goes
  intro h
  exact crc_unlike (BitVec.ofNat 16 s.toNat) (allBits l) (allBits m) d p q (by rw [allBits_length, allBits_length, hl]) hz hd ht (BitVec.eq_of_toNat_eq (by omega))

theorem bits_zero : ∀ b : Fin 256, (true ∈ bitsOf b.val) ∨ b.val = 0 := by decide +kernel
theorem bits_some {b : Nat} (hb : b < 256) (h : b ≠ 0) : true ∈ bitsOf b := (bits_zero ⟨b, hb⟩).resolve_right h

theorem two_unlike (s : Int) (P Q : List Int) (u v x y : Nat) (hx : x < 256) (hy : y < 256) (h : x ≠ 0 ∨ y ≠ 0) :
    goes s (P ++ (u : Int) :: (v : Int) :: Q) ≠ goes s (P ++ ((u ^^^ x : Nat) : Int) :: ((v ^^^ y : Nat) : Int) :: Q) := by
  refine goes_unlike s _ _ (bitsOf x ++ bitsOf y) (8 * P.length) (8 * Q.length) (by simp) ?_ (by simp [bitsOf]) ?_
  · simp only [allBits_append, allBits_cons, Int.toNat_natCast]
    rw [List.zipWith_append (show (allBits P).length = (allBits P).length from rfl), zip_self, allBits_length, List.zipWith_append (show (bitsOf u).length = (bitsOf (u ^^^ x)).length from rfl), List.zipWith_append (show (bitsOf v).length = (bitsOf (v ^^^ y)).length from rfl), zip_self, allBits_length, bits_xor, bits_xor]
    simp
  · rcases h with h | h
    · exact List.mem_append.2 (.inl (bits_some hx h))
    · exact List.mem_append.2 (.inr (bits_some hy h))

/-- In a list: the bytes at two places turned. -/
theorem set_unlike (s : Int) (l : List Int) (hl : Bytes l) (i : Nat) (hi : i + 1 < l.length) (x y : Nat) (hx : x < 256) (hy : y < 256) (h : x ≠ 0 ∨ y ≠ 0) :
    goes s ((l.set i (((l.getD i 0).toNat ^^^ x : Nat) : Int)).set (i + 1) (((l.getD (i + 1) 0).toNat ^^^ y : Nat) : Int)) ≠ goes s l := by
  have hd : l = l.take i ++ ((l.getD i 0).toNat : Int) :: ((l.getD (i + 1) 0).toNat : Int) :: l.drop (i + 2) := by
    have h0 := hl _ (List.getElem_mem (show i < l.length by omega))
    have h1 := hl _ (List.getElem_mem hi)
    have e0 : l.getD i 0 = l[i] := by rw [List.getD_eq_getElem?_getD, List.getElem?_eq_getElem (by omega)]; rfl
    have e1 : l.getD (i + 1) 0 = l[i + 1] := by rw [List.getD_eq_getElem?_getD, List.getElem?_eq_getElem (by omega)]; rfl
    rw [e0, e1, Int.toNat_of_nonneg h0.1, Int.toNat_of_nonneg h1.1, ← List.drop_eq_getElem_cons hi, ← List.drop_eq_getElem_cons (show i < l.length by omega), List.take_append_drop]
  generalize l.getD i 0 = u at hd ⊢
  generalize l.getD (i + 1) 0 = v at hd ⊢
  have hlen : (l.take i).length = i := by rw [List.length_take]; omega
  generalize l.take i = P at hd hlen
  generalize l.drop (i + 2) = Q at hd
  subst hd
  rw [List.set_append_right _ _ (by omega), List.set_append_right _ _ (by omega), hlen, Nat.sub_self, show i + 1 - i = 1 by omega]
  exact (two_unlike s P Q u.toNat v.toNat x y hx hy h).symm
end Go.Proofs.Ytjkngcpmcmffmaa.Burst
