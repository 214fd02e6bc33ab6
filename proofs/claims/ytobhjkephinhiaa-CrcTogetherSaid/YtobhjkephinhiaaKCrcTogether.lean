import Derived.Test.YtobhjkephinhiaaSeal
import Derived.Test.YtobhjkephinhiaaBurst
import Derived.BigRegion
namespace Go.Proofs.Ytobhjkephinhiaa.CrcTogetherW
open Go.RowKit Go.Proofs.Ytobhjkephinhiaa.Crc Go.Proofs.Ytobhjkephinhiaa.CrcM Go.Proofs.Ytobhjkephinhiaa.Seal Go.Proofs.Ytobhjkephinhiaa.Burst Go.Proofs.Ytobhjkephinhiaa.Ow Go.Proofs.Ytobhjkephinhiaa.Rw Go.Proofs.Ytobhjkephinhiaa.Bk Go.Proofs.YtobhjkephinhiaaW.PrintWords Go.Proofs.YtobhjkephinhiaaW.PrintLast

theorem xor8 (a b : Int) (ha : 0 ≤ a ∧ a ≤ 255) (hb : 0 ≤ b ∧ b ≤ 255) : Go.bits .xor .u8 a b = ((a.toNat ^^^ b.toNat : Nat) : Int) := by
  obtain ⟨n, rfl⟩ := Int.eq_ofNat_of_zero_le ha.1
  obtain ⟨m, rfl⟩ := Int.eq_ofNat_of_zero_le hb.1
  simp only [bits, BitVec.ofInt_natCast, BitVec.toNat_xor, BitVec.toNat_ofNat, Int.toNat_natCast]
  rw [Nat.mod_eq_of_lt (show n < 2 ^ IntKind.u8.bits from Nat.lt_of_le_of_lt (by omega) (show 255 < 2 ^ 8 by decide)), Nat.mod_eq_of_lt (show m < 2 ^ IntKind.u8.bits from Nat.lt_of_le_of_lt (by omega) (show 255 < 2 ^ 8 by decide))]
  have : n ^^^ m < 2 ^ 8 := Nat.xor_lt_two_pow (by omega) (by omega)
  exact IntWalk.u8_in _ ⟨by omega, by omega⟩
theorem byte_xor {a b : Int} (ha : 0 ≤ a ∧ a ≤ 255) (hb : 0 ≤ b ∧ b ≤ 255) : 0 ≤ Go.bits .xor .u8 a b ∧ Go.bits .xor .u8 a b ≤ 255 := by
  rw [xor8 a b ha hb]
  have : a.toNat ^^^ b.toNat < 2 ^ 8 := Nat.xor_lt_two_pow (by omega) (by omega)
  omega

/-- Two rows of bytes, turned one by the other. -/
def xl (l m : List Int) : List Int := List.zipWith (Go.bits .xor .u8) l m
theorem xl_bytes : ∀ {l m : List Int}, Bytes l → Bytes m → Bytes (xl l m)
  | [], _, _, _ => fun x hx => by simp [xl] at hx
  | _ :: _, [], _, _ => fun x hx => by simp [xl] at hx
  | a :: l, b :: m, hl, hm => fun x hx => by
    unfold xl at hx
    rw [List.zipWith_cons_cons] at hx
    rcases List.mem_cons.1 hx with rfl | h
    · exact byte_xor (hl a (by simp)) (hm b (by simp))
    · exact xl_bytes (fun y hy => hl y (by simp [hy])) (fun y hy => hm y (by simp [hy])) x h
theorem bits_zip (a b : Nat) : bitsOf (a ^^^ b) = List.zipWith (· ^^ ·) (bitsOf a) (bitsOf b) := by
  simp only [bitsOf, List.zipWith_cons_cons, List.zipWith_nil_left, Nat.testBit_xor]
theorem xl_bits : ∀ {l m : List Int}, l.length = m.length → Bytes l → Bytes m → allBits (xl l m) = List.zipWith (· ^^ ·) (allBits l) (allBits m)
  | [], [], _, _, _ => rfl
  | [], _ :: _, h, _, _ => by simp at h
  | _ :: _, [], h, _, _ => by simp at h
  | a :: l, b :: m, h, hl, hm => by
    unfold xl
    rw [List.zipWith_cons_cons, allBits_cons, allBits_cons, allBits_cons, List.zipWith_append (show (bitsOf a.toNat).length = (bitsOf b.toNat).length from rfl), xor8 a b (hl a (by simp)) (hm b (by simp)), Int.toNat_natCast, bits_zip]
    have := xl_bits (l := l) (m := m) (by simpa using h) (fun y hy => hl y (by simp [hy])) (fun y hy => hm y (by simp [hy]))
    unfold xl at this
    rw [this]
theorem xl_goes {a b c : List Int} (hab : a.length = b.length) (hac : a.length = c.length) (ha : Bytes a) (hb : Bytes b) (hc : Bytes c) :
    goes 65535 (xl (xl a b) c) = Go.bits .xor .u16 (Go.bits .xor .u16 (goes 65535 a) (goes 65535 b)) (goes 65535 c) := by
  have hxl : (xl a b).length = c.length := by unfold xl; rw [List.length_zipWith]; omega
  have h1 := xl_bits hxl (xl_bytes ha hb) hc
  have h2 := xl_bits hab ha hb
  unfold goes
  rw [h1, h2]
  have e1 : (allBits a).length = (allBits b).length := by rw [allBits_length, allBits_length, hab]
  have e2 : (List.zipWith (· ^^ ·) (allBits a) (allBits b)).length = (allBits c).length := by rw [List.length_zipWith, ← e1, Nat.min_self, allBits_length, allBits_length, hac]
  have h3 := crc_xor (List.zipWith (· ^^ ·) (allBits a) (allBits b)) (allBits c) (65535#16 ^^^ 65535#16) 65535#16 e2
  rw [crc_xor (allBits a) (allBits b) 65535#16 65535#16 e1] at h3
  rw [show (65535#16 ^^^ 65535#16) ^^^ 65535#16 = BitVec.ofNat 16 (65535 : Int).toNat from by decide] at h3
  rw [h3]
  show (((crc (65535#16) (allBits a) ^^^ crc (65535#16) (allBits b)) ^^^ crc (65535#16) (allBits c)).toNat : Int) = Go.bits .xor .u16 (Go.bits .xor .u16 ((crc (65535#16) (allBits a)).toNat : Int) ((crc (65535#16) (allBits b)).toNat : Int)) ((crc (65535#16) (allBits c)).toNat : Int)
  generalize crc (65535#16) (allBits a) = u
  generalize crc (65535#16) (allBits b) = v
  generalize crc (65535#16) (allBits c) = x
  rw [xor16 _ _ u.isLt v.isLt, ← BitVec.toNat_xor, xor16 _ _ (u ^^^ v).isLt x.isLt, ← BitVec.toNat_xor]

/-- The row, filled as_ far as_ i. -/
def part (L : List Int) (i : Nat) : List Int := L.take i ++ List.replicate (L.length - i) 0
theorem part_zero (L : List Int) : part L 0 = List.replicate L.length 0 := by simp [part]
theorem part_all (L : List Int) : part L L.length = L := by simp [part]
theorem part_len (L : List Int) (i : Nat) (h : i ≤ L.length) : (part L i).length = L.length := by simp [part]; omega
theorem part_step (L : List Int) (i : Nat) (h : i < L.length) : (part L i).set i (L.getD i 0) = part L (i + 1) := by
  unfold part
  rw [List.set_append_right _ _ (by rw [List.length_take]; omega), List.length_take, show i - min i L.length = 0 by omega, show L.length - i = (L.length - (i + 1)) + 1 by omega, List.replicate_succ, List.set_cons_zero,
    List.take_succ_eq_append_getElem h, List.append_assoc, List.getD_eq_getElem?_getD, List.getElem?_eq_getElem h]
  rfl
theorem xl_getD (a b : List Int) (h : a.length = b.length) (i : Nat) (hi : i < a.length) : (xl a b).getD i 0 = Go.bits .xor .u8 (a.getD i 0) (b.getD i 0) := by
  unfold xl
  rw [List.getD_eq_getElem?_getD, List.getD_eq_getElem?_getD, List.getD_eq_getElem?_getD, List.getElem?_zipWith, List.getElem?_eq_getElem hi, List.getElem?_eq_getElem (by omega)]
  rfl

set_option maxRecDepth 100000 in
set_option maxHeartbeats 2000000 in
set_option linter.unusedVariables false in
theorem walk (a0 : Option Addr) (len0 cap0 : Nat) (z0 : List Int) (a1 : Option Addr) (len1 cap1 : Nat) (z1 : List Int) (a2 : Option Addr) (len2 cap2 : Nat) (z2 : List Int) (W : World) (w0 : Lf.IsRow .u8 W a0 len0 cap0 z0) (y0 : len0 * 1 ≤ 140737488351232) (w1 : Lf.IsRow .u8 W a1 len1 cap1 z1) (y1 : len1 * 1 ≤ 140737488351232) (w2 : Lf.IsRow .u8 W a2 len2 cap2 z2) (y2 : len2 * 1 ≤ 140737488351232) :
    Calls Try.prog 6 #[.slice a0 len0 cap0, .slice a1 len1 cap1, .slice a2 len2 cap2] W fun e w' => e = .returned (.bool true) ∧ Below W.heap.size W w' := by
  obtain ⟨l, rfl, hc0, _, hr0, hb0⟩ := row_bytes w0
  obtain ⟨m, rfl, hc1, _, hr1, hb1⟩ := row_bytes w1
  obtain ⟨o, rfl, hc2, _, hr2, hb2⟩ := row_bytes w2
  have R0 := Lib.hid hr0
  have R1 := Lib.hid hr1
  have R2 := Lib.hid hr2
  have B0 := Lib.hid hb0
  have B1 := Lib.hid hb1
  have B2 := Lib.hid hb2
  clear hr0 hr1 hr2 hb0 hb1 hb2 w0 w1 w2 y0 y1 y2 z0 z1 z2
  go_enter Try.func6, Try.ntmps6
  go_wp2_with fail
  refine (alive_ok _).mono ?_
  rintro e w1 ⟨rfl, hb⟩
  have HW := Lib.hid hb
  clear hb
  by_cases hl : l.length ≤ 4096
  rotate_left
  · go_wp2_with fail
    go_ret
    exact ⟨rfl, HW.out⟩
  by_cases hm : m.length = l.length
  rotate_left
  · have hm' : ((m.length : Int) != (l.length : Int)) = true := by simp; omega
    go_wp2_with fail
    go_ret
    exact ⟨rfl, HW.out⟩
  by_cases ho : o.length = l.length
  rotate_left
  · have ho' : ((o.length : Int) != (l.length : Int)) = true := by simp; omega
    go_wp2_with fail
    go_ret
    exact ⟨rfl, HW.out⟩
  have HM := Lib.hid hm
  have HO := Lib.hid ho
  go_wp2_with (with_reducible refine wp_full .u8 5 _ W.heap.size 1 rfl 22 _ _ rfl Try.underlying22 (by kernel_rfl) .i64 .i64 _ _ l.length rfl rfl rfl rfl ?_ ?_ ?_ ?_)
  · omega
  · unfold maxLen; omega
  · exact HW.out.size
  intro w2 hown hg
  have hxo : (xl l m).length = o.length := by unfold xl; rw [List.length_zipWith]; omega
  have hL : (xl (xl l m) o).length = l.length := by unfold xl; rw [List.length_zipWith, List.length_zipWith]; omega
  have hLg := xl_goes hm.symm ho.symm B0.out B1.out B2.out
  have hLb := xl_bytes (xl_bytes B0.out B1.out) B2.out
  have hLe : ∀ k, k < l.length → (xl (xl l m) o).getD k 0 = Go.bits .xor .u8 (Go.bits .xor .u8 (l.getD k 0) (m.getD k 0)) (o.getD k 0) := fun k hk => by
    rw [xl_getD _ _ hxo k (by omega), xl_getD _ _ hm.symm k hk]
  generalize xl (xl l m) o = L at hL hLg hLb hLe
  have HW2 := Lib.hid ((HW.out.grown hg HW.out.size (fun q hq => by cases hq)))
  have hgb : W.heap.size ≤ w1.heap.size := HW.out.size
  generalize w1.heap.size = g at hown hgb ⊢
  have HO := Lib.hid (show Oi .u8 5 w2 W.heap.size (.slice (some ⟨g, 0, none⟩) l.length l.length) (part L 0) by rw [part_zero, hL]; exact hown)
  have GL := Lib.hid hL
  have GG := Lib.hid hLg
  have GB := Lib.hid hLb
  have GE := Lib.hid hLe
  clear hL hLg hLb hLe hown hg HW hxo
  go_wp2
  go_loopw [33] (fun i wr => ∃ k : Nat, k ≤ l.length ∧ i = .int .i64 k ∧ Oi .u8 5 wr W.heap.size (.slice (some ⟨g, 0, none⟩) l.length l.length) (part L k) ∧ Below W.heap.size W wr) (fun i _ => l.length - (intOf i).toNat)
  case atStart => exact ⟨0, Nat.zero_le _, rfl, HO.out, HW2.out⟩
  case round =>
    obtain ⟨k, hk, rfl, ho3, hb3⟩ := hrel
    have HO3 := Lib.hid ho3
    have HW3 := Lib.hid hb3
    clear ho3 hb3
    by_cases hlt : k < l.length
    · obtain ⟨ad0, rfl, _, c0⟩ := (R0.out.below HW3.out).at_ hlt
      obtain ⟨ad1, rfl, _, c1⟩ := (R1.out.below HW3.out).at_ (show k < m.length by omega)
      obtain ⟨ad2, rfl, _, c2⟩ := (R2.out.below HW3.out).at_ (show k < o.length by omega)
      have cg : ∃ u, wr.cell? ⟨g, k, none⟩ = some (.int .u8 u) ∧ wr.frozen? ⟨g, k, none⟩ = false := by
        obtain ⟨h1, h2⟩ | ⟨g', c', he, _, _, _, _, hcell, hfr⟩ := HO3.out.form
        · cases h1
        · injection he with h1 _ _
          injection h1 with h1
          injection h1 with h1 _ _
          subst h1
          have hpl := part_len L k (by have := GL.out; omega)
          have := GL.out
          exact ⟨_, hcell k _ (List.getElem?_eq_getElem (by omega)), hfr k⟩
      obtain ⟨u, cg, fg⟩ := cg
      have hE := GE.out k hlt
      generalize hu : l.getD k 0 = x0 at c0 hE
      generalize hv : m.getD k 0 = x1 at c1 hE
      generalize hw : o.getD k 0 = x2 at c2 hE
      have HE := Lib.hid hE
      clear hE hu hv hw
      go_wp2
      go_region
      go_wp2
      have hst := (HO3.out.set_ k (Go.bits .xor .u8 (Go.bits .xor .u8 x0 x1) x2)).1
      rw [← HE.out, part_step L k (by have := GL.out; omega), HE.out] at hst
      go_roundw
      case rel => exact ⟨k + 1, by omega, by go_num, hst.drew, (HW3.out.setCell (p := ⟨g, k, none⟩) hgb _).drew⟩
      case measure => simp [intOf]; omega
    · have hkl : k = l.length := by omega
      subst hkl
      have hown := HO3.out
      rw [show part L l.length = L by rw [← GL.out]; exact part_all L] at hown
      obtain ⟨A, c', he, hcc, hr⟩ := hown.ri
      injection he with e3 e4 e5
      subst e3 e5
      have RL := Lib.hid hr
      have R03 := Lib.hid (R0.out.below HW3.out)
      have R13 := Lib.hid (R1.out.below HW3.out)
      have R23 := Lib.hid (R2.out.below HW3.out)
      have sL : ∀ n, Calls Try.prog 9 #[.slice (some ⟨g, 0, none⟩) l.length l.length] (wr.drewN n) fun e w' => e = .returned (.int .u16 (goes 65535 L)) ∧ Drawn0 (wr.drewN n) w' := fun n => by
        have := sum_ok (some ⟨g, 0, none⟩) l.length L (wr.drewN n) (RL.out.drewN n) hcc GB.out (by have := GL.out; omega)
        rwa [GL.out] at this
      have s1 : ∀ n, Calls Try.prog 9 #[.slice a1 l.length cap1] (wr.drewN n) fun e w' => e = .returned (.int .u16 (goes 65535 m)) ∧ Drawn0 (wr.drewN n) w' := fun n => by
        have := sum_ok a1 cap1 m (wr.drewN n) (R13.out.drewN n) hc1 B1.out (by omega)
        rwa [hm] at this
      have s2 : ∀ n, Calls Try.prog 9 #[.slice a2 l.length cap2] (wr.drewN n) fun e w' => e = .returned (.int .u16 (goes 65535 o)) ∧ Drawn0 (wr.drewN n) w' := fun n => by
        have := sum_ok a2 cap2 o (wr.drewN n) (R23.out.drewN n) hc2 B2.out (by omega)
        rwa [ho] at this
      have SL := Lib.hid sL
      have S1 := Lib.hid s1
      have S2 := Lib.hid s2
      have S0 := Lib.hid (fun n => sum_ok a0 cap0 l (wr.drewN n) (R03.out.drewN n) hc0 B0.out (by omega))
      clear sL s1 s2 hr hown hcc e4
      have hG := GG.out
      go_wp2_with fail
      refine (SL.out 0).mono ?_
      rintro e w4 ⟨rfl, n1, rfl⟩
      rw [hG]
      go_wp2_with (first
        | (go_at_call 9; with_reducible refine Calls.mono (S0.out _) ?_; rintro e w' ⟨rfl, n, rfl⟩)
        | (go_at_call 9; with_reducible refine Calls.mono (S1.out _) ?_; rintro e w' ⟨rfl, n, rfl⟩)
        | (go_at_call 9; with_reducible refine Calls.mono (S2.out _) ?_; rintro e w' ⟨rfl, n, rfl⟩))
      go_ret
      exact ⟨rfl, below_drewN_ HW3.out _⟩
end Go.Proofs.Ytobhjkephinhiaa.CrcTogetherW
