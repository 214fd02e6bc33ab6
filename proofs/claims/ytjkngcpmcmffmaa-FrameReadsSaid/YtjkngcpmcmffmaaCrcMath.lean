/- The remainder of bits by x^16 + x^12 + x^5 + 1: linear; a burst of up to sixteen bits is told. Plain Lean. -/
namespace Go.Proofs.Ytjkngcpmcmffmaa.CrcM

/-- One bit further: the remainder times x. -/
def T (s : BitVec 16) : BitVec 16 := (s <<< 1) ^^^ (if s.msb then 0x1021#16 else 0#16)

theorem T_zero : T 0#16 = 0#16 := by decide

theorem xor_mid (a b c d : BitVec 16) : (a ^^^ b) ^^^ (c ^^^ d) = (a ^^^ c) ^^^ (b ^^^ d) := by ac_rfl

theorem T_xor (s t : BitVec 16) : T (s ^^^ t) = T s ^^^ T t := by
  unfold T
  rw [BitVec.shiftLeft_xor_distrib, BitVec.msb_xor, xor_mid]
  cases s.msb <;> cases t.msb <;> simp

theorem T_bit0 (s : BitVec 16) : (T s).getLsbD 0 = s.msb := by
  unfold T
  cases s.msb <;> simp

theorem T_low (s : BitVec 16) (h : s.msb = false) : T s = s <<< 1 := by
  unfold T; simp [h]

theorem shl_back (u v : BitVec 16) (hu : u.msb = false) (h : u <<< 1 = v) : u = v >>> 1 := by
  subst h
  apply BitVec.eq_of_getLsbD_eq
  intro i hi
  rw [BitVec.getLsbD_ushiftRight, BitVec.getLsbD_shiftLeft]
  by_cases h15 : i = 15
  · subst h15
    have : u.getLsbD 15 = false := by rw [BitVec.msb_eq_getLsbD_last] at hu; simpa using hu
    rw [this]; rfl
  · have h1 : decide (1 + i < 16) = true := decide_eq_true (by omega)
    have h2 : decide (1 + i < 1) = false := decide_eq_false (by omega)
    rw [h1, h2]
    simp

theorem T_back (u v : BitVec 16) (h : T u = v) (hv : v.getLsbD 0 = false) : u = v >>> 1 := by
  have hm : u.msb = false := by rw [← T_bit0, h]; exact hv
  rw [T_low u hm] at h
  exact shl_back u v hm h

theorem T_inj0 (s : BitVec 16) (h : T s = 0#16) : s = 0#16 := by
  have := T_back s 0#16 h (by decide)
  rw [this]; decide

def B (b : Bool) : BitVec 16 := if b then 0x8000#16 else 0#16
theorem B_xor (a b : Bool) : B (a ^^ b) = B a ^^^ B b := by cases a <;> cases b <;> decide

/-- A bit goes in. -/
def bs (s : BitVec 16) (b : Bool) : BitVec 16 := T (s ^^^ B b)
theorem bs_xor (s t : BitVec 16) (a b : Bool) : bs (s ^^^ t) (a ^^ b) = bs s a ^^^ bs t b := by
  unfold bs; rw [B_xor, xor_mid, T_xor]

def crc (s : BitVec 16) (l : List Bool) : BitVec 16 := l.foldl bs s
theorem crc_nil (s : BitVec 16) : crc s [] = s := rfl
theorem crc_cons (s : BitVec 16) (b : Bool) (l : List Bool) : crc s (b :: l) = crc (bs s b) l := rfl
theorem crc_append (s : BitVec 16) (l m : List Bool) : crc s (l ++ m) = crc (crc s l) m := by unfold crc; rw [List.foldl_append]

theorem crc_xor : ∀ (l m : List Bool) (s t : BitVec 16), l.length = m.length → crc (s ^^^ t) (List.zipWith (· ^^ ·) l m) = crc s l ^^^ crc t m
  | [], [], _, _, _ => rfl
  | a :: l, b :: m, s, t, h => by
    rw [List.zipWith_cons_cons, crc_cons, crc_cons, crc_cons, bs_xor]
    exact crc_xor l m _ _ (by simpa using h)
  | [], b :: m, _, _, h => by simp at h
  | a :: l, [], _, _, h => by simp at h

theorem crc_zeros : ∀ n, crc 0#16 (List.replicate n false) = 0#16
  | 0 => rfl
  | n + 1 => by rw [List.replicate_succ, crc_cons, show bs 0#16 false = 0#16 by decide]; exact crc_zeros n

theorem bs_false (s : BitVec 16) : bs s false = T s := by unfold bs B; simp

theorem crc_zeros_ne : ∀ n s, s ≠ 0#16 → crc s (List.replicate n false) ≠ 0#16
  | 0, s, h => h
  | n + 1, s, h => by
    rw [List.replicate_succ, crc_cons, bs_false]
    exact crc_zeros_ne n _ (fun h2 => h (T_inj0 s h2))

/-- Bits from the top on. -/
def top : List Bool → BitVec 16
  | [] => 0#16
  | b :: r => B b ^^^ (top r >>> 1)

theorem B_bit (b : Bool) (i : Nat) (h : i < 15) : (B b).getLsbD i = false := by
  cases b
  · unfold B; simp
  · have : ∀ i, i < 15 → (0x8000#16).getLsbD i = false := by decide
    exact this i h

theorem top_low : ∀ (l : List Bool) (i : Nat), i + l.length < 16 → (top l).getLsbD i = false
  | [], i, _ => by unfold top; simp
  | b :: r, i, h => by
    simp only [List.length_cons] at h
    unfold top
    rw [BitVec.getLsbD_xor, B_bit b i (by omega), BitVec.getLsbD_ushiftRight, top_low r (1 + i) (by omega)]
    rfl

theorem crc_back : ∀ (l : List Bool) (s : BitVec 16), l.length ≤ 16 → crc s l = 0#16 → s = top l
  | [], s, _, h => h
  | b :: r, s, hl, h => by
    simp only [List.length_cons] at hl
    rw [crc_cons] at h
    have h1 := crc_back r _ (by omega) h
    have h2 := T_back _ _ h1 (top_low r 0 (by omega))
    unfold top
    rw [← h2, BitVec.xor_comm s, ← BitVec.xor_assoc, BitVec.xor_self, BitVec.zero_xor]

theorem top_zero : ∀ (l : List Bool), l.length ≤ 16 → top l = 0#16 → ∀ b ∈ l, b = false
  | [], _, _, b, hb => by simp at hb
  | a :: r, hl, h, b, hb => by
    simp only [List.length_cons] at hl
    unfold top at h
    have ha : a = false := by
      have h1 := congrArg (fun x => x.getLsbD 15) h
      simp only [BitVec.getLsbD_xor, BitVec.getLsbD_ushiftRight] at h1
      have h2 : (top r).getLsbD (1 + 15) = false := BitVec.getLsbD_of_ge _ _ (by omega)
      rw [h2] at h1
      cases a
      · rfl
      · exact absurd h1 (by decide)
    subst ha
    have hr : top r = 0#16 := by
      apply BitVec.eq_of_getLsbD_eq
      intro i hi
      rcases i with _ | i
      · rw [top_low r 0 (by omega)]; rfl
      · have h1 := congrArg (fun x => x.getLsbD i) h
        simp only [BitVec.getLsbD_xor, BitVec.getLsbD_ushiftRight] at h1
        rw [show (B false).getLsbD i = false by unfold B; simp, Nat.add_comm 1 i] at h1
        simpa using h1
    rcases List.mem_cons.1 hb with rfl | hb
    · rfl
    · exact top_zero r (by omega) hr b hb

/-- A burst of up to sixteen bits, not all of them 0, among zeros: the remainder isn't 0. -/
theorem burst (l : List Bool) (hl : l.length ≤ 16) (hb : true ∈ l) (p q : Nat) : crc 0#16 (List.replicate p false ++ l ++ List.replicate q false) ≠ 0#16 := by
  rw [crc_append, crc_append, crc_zeros]
  refine crc_zeros_ne q _ (fun h => ?_)
  have h1 := crc_back l _ hl h
  have := top_zero l hl h1.symm true hb
  cases this

end Go.Proofs.Ytjkngcpmcmffmaa.CrcM
