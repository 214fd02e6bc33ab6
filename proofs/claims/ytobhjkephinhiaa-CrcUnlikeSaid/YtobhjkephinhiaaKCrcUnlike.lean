import Derived.Test.YtobhjkephinhiaaSeal
import Derived.Test.YtobhjkephinhiaaBurst
namespace Go.Proofs.Ytobhjkephinhiaa.CrcUnlikeW
open Go.RowKit Go.Proofs.Ytobhjkephinhiaa.Crc Go.Proofs.Ytobhjkephinhiaa.Seal Go.Proofs.Ytobhjkephinhiaa.Burst Go.Proofs.Ytobhjkephinhiaa.Ow Go.Proofs.Ytobhjkephinhiaa.Rw Go.Proofs.Ytobhjkephinhiaa.Bk Go.Proofs.YtobhjkephinhiaaW.PrintWords Go.Proofs.YtobhjkephinhiaaW.PrintLast

theorem xor8 (a b : Int) (ha : 0 ≤ a ∧ a ≤ 255) (hb : 0 ≤ b ∧ b ≤ 255) : Go.bits .xor .u8 a b = ((a.toNat ^^^ b.toNat : Nat) : Int) := by
  obtain ⟨n, rfl⟩ := Int.eq_ofNat_of_zero_le ha.1
  obtain ⟨m, rfl⟩ := Int.eq_ofNat_of_zero_le hb.1
  simp only [bits, BitVec.ofInt_natCast, BitVec.toNat_xor, BitVec.toNat_ofNat, Int.toNat_natCast]
  rw [Nat.mod_eq_of_lt (show n < 2 ^ IntKind.u8.bits from Nat.lt_of_le_of_lt (by omega) (show 255 < 2 ^ 8 by decide)), Nat.mod_eq_of_lt (show m < 2 ^ IntKind.u8.bits from Nat.lt_of_le_of_lt (by omega) (show 255 < 2 ^ 8 by decide))]
  have : n ^^^ m < 2 ^ 8 := Nat.xor_lt_two_pow (by omega) (by omega)
  exact IntWalk.u8_in _ ⟨by omega, by omega⟩

theorem byte_xor {a b : Int} (ha : 0 ≤ a ∧ a ≤ 255) (hb : 0 ≤ b ∧ b ≤ 255) : 0 ≤ Go.bits .xor .u8 a b ∧ Go.bits .xor .u8 a b ≤ 255 := by
  rw [xor8 a b ha hb]
  have : a.toNat ^^^ b.toNat < 2 ^ 8 := Nat.xor_lt_two_pow (by omega) (by omega)
  omega
theorem bytes_set {l : List Int} (hl : Bytes l) (i : Nat) {x : Int} (hx : 0 ≤ x ∧ x ≤ 255) : Bytes (l.set i x) := fun y hy => by
  rcases List.mem_or_eq_of_mem_set hy with h | rfl
  · exact hl y h
  · exact hx
theorem getD_byte {l : List Int} (hl : Bytes l) (i : Nat) : 0 ≤ l.getD i 0 ∧ l.getD i 0 ≤ 255 := by
  rw [List.getD_eq_getElem?_getD]
  cases h : l[i]? with
  | none => simp
  | some x => exact hl x (List.mem_of_getElem? h)

set_option maxRecDepth 100000 in
set_option maxHeartbeats 2000000 in
set_option linter.unusedVariables false in
theorem walk (a0 : Option Addr) (len0 cap0 : Nat) (z0 : List Int) (a1 : Int) (a2 : Int) (a3 : Int) (W : World) (w0 : Lf.IsRow .u8 W a0 len0 cap0 z0) (y0 : len0 * 1 ≤ 140737488351232) (w1 : (Lit.int .i64 a1).wf = true) (w2 : (Lit.int .u8 a2).wf = true) (w3 : (Lit.int .u8 a3).wf = true) :
    Calls Try.prog 7 #[.slice a0 len0 cap0, .int .i64 a1, .int .u8 a2, .int .u8 a3] W fun e w' => e = .returned (.bool true) ∧ Below W.heap.size W w' := by
  obtain ⟨l, rfl, hc0, _, hr0, hb0⟩ := row_bytes w0
  have h1 : 0 ≤ a2 ∧ a2 ≤ 255 := by
    simp [Lit.wf, IntKind.min, IntKind.max, IntKind.bits, IntKind.signed] at w2
    omega
  have h2 : 0 ≤ a3 ∧ a3 ≤ 255 := by
    simp [Lit.wf, IntKind.min, IntKind.max, IntKind.bits, IntKind.signed] at w3
    omega
  have h3 : -9223372036854775808 ≤ a1 ∧ a1 ≤ 9223372036854775807 := by
    simp [Lit.wf, IntKind.min, IntKind.max, IntKind.bits, IntKind.signed] at w1
    omega
  have R0 := Lib.hid hr0
  have B0 := Lib.hid hb0
  have X1 := Lib.hid h1
  have X2 := Lib.hid h2
  clear hr0 hb0 w0 w1 w2 w3 y0 z0 h1 h2
  go_enter Try.func7, Try.ntmps7
  go_wp2_with fail
  refine (alive_ok _).mono ?_
  rintro e w1 ⟨rfl, hb⟩
  have HW := Lib.hid hb
  clear hb
  by_cases hl : l.length ≤ 4096
  rotate_left
  · go_wp2_with fail
    go_ret
    exact ⟨rfl, HW.out⟩
  by_cases hp : 0 ≤ a1
  rotate_left
  · go_wp2_with fail
    go_ret
    exact ⟨rfl, HW.out⟩
  by_cases hq : a1 < (l.length : Int) - 1
  rotate_left
  · go_wp2_with fail
    go_ret
    exact ⟨rfl, HW.out⟩
  by_cases hxy : a2 = 0 ∧ a3 = 0
  · obtain ⟨rfl, rfl⟩ := hxy
    go_wp2_with fail
    go_ret
    exact ⟨rfl, HW.out⟩
  obtain ⟨i, rfl⟩ := Int.eq_ofNat_of_zero_le hp
  have R0' := Lib.hid (R0.out.below HW.out)
  have hxy' : ((a2 == 0) && (a3 == 0)) = false := by
    rw [Bool.and_eq_false_iff]
    simp
    omega
  have hne : a2.toNat ≠ 0 ∨ a3.toNat ≠ 0 := by
    have := X1.out
    have := X2.out
    omega
  have HN := Lib.hid hne
  clear hxy hne
  obtain ⟨b1, e1⟩ : ∃ b, (a2 == 0) = b := ⟨_, rfl⟩
  obtain ⟨b2, e2⟩ : ∃ b, (a3 == 0) = b := ⟨_, rfl⟩
  rw [e1, e2] at hxy'
  cases b1 <;> cases b2 <;> (try (cases hxy'; done)) <;> clear hxy'
  all_goals (
    go_wp2_with (at_builtin; refine wp_append .u8 5 _ W.heap.size (.int .u8 0) 1 rfl _ _ 22 rfl Try.underlying22 (by kernel_rfl) rfl (.slice (some ⟨w1.heap.size, 0, none⟩) 0 0) [] _ _ l _ rfl rfl rfl (Oi.lit .u8 5 w1 W.heap.size HW.out.size [] (by simp) #[] rfl) (R0'.out.alloc _) ?_ ?_ ?_ ?_)
    · unfold maxLen; simp; omega
    · simp; omega
    · have := HW.out.size; simp; omega
    intro v2 w2 ho hg _
    have HW2 := Lib.hid (Below.of_owned (v := .slice (some ⟨w1.heap.size, 0, none⟩) 0 0) (HW.out.alloc HW.out.size _) (by have := HW.out.size; simp; omega) hg (fun q hq => by simp [Value.ownBlock] at hq; subst hq; exact HW.out.size))
    clear hg HW R0'
    obtain ⟨_, rfl⟩ | ⟨g, c, rfl, hgb, hgl, hgc, _, hcell, hfr⟩ := ho.form
    · exact absurd hq (by simp)
    have HO := Lib.hid ho
    have c0 := hcell i (l.getD i 0) (by rw [List.getD_eq_getElem?_getD, List.getElem?_eq_getElem (by omega)]; rfl)
    have c1 := hcell (i + 1) (l.getD (i + 1) 0) (by rw [List.getD_eq_getElem?_getD, List.getElem?_eq_getElem (by omega)]; rfl)
    have f0 := hfr i
    have f1 := hfr (i + 1)
    generalize hu : l.getD i 0 = u at c0
    generalize hv : l.getD (i + 1) 0 = v at c1
    have HU := Lib.hid hu
    have HV := Lib.hid hv
    clear hu hv hcell hfr ho
    go_wp2_with fail
    obtain ⟨ho1, _⟩ := HO.out.set_ i (Go.bits .xor .u8 u a2)
    obtain ⟨ho2, _⟩ := ho1.set_ (i + 1) (Go.bits .xor .u8 v a3)
    have hW3 := (HW2.out.setCell (p := ⟨g, i, none⟩) hgb (.int .u8 (Go.bits .xor .u8 u a2))).setCell (p := ⟨g, i + 1, none⟩) hgb (.int .u8 (Go.bits .xor .u8 v a3))
    generalize ((w2.setCell ⟨g, i, none⟩ (.int .u8 (Go.bits .xor .u8 u a2))).setCell ⟨g, i + 1, none⟩ (.int .u8 (Go.bits .xor .u8 v a3))) = w3 at ho2 hW3 ⊢
    have hu : 0 ≤ u ∧ u ≤ 255 := by rw [← HU.out]; exact getD_byte B0.out i
    have hv : 0 ≤ v ∧ v ≤ 255 := by rw [← HV.out]; exact getD_byte B0.out (i + 1)
    have hBL := bytes_set (bytes_set B0.out i (byte_xor hu X1.out)) (i + 1) (byte_xor hv X2.out)
    have hne := set_unlike 65535 l B0.out i (by omega) a2.toNat a3.toNat (by have := X1.out; omega) (by have := X2.out; omega) HN.out
    rw [HU.out, HV.out, ← xor8 u a2 hu X1.out, ← xor8 v a3 hv X2.out] at hne
    have hLl : ((l.set i (Go.bits .xor .u8 u a2)).set (i + 1) (Go.bits .xor .u8 v a3)).length = l.length := by rw [List.length_set, List.length_set]
    generalize (l.set i (Go.bits .xor .u8 u a2)).set (i + 1) (Go.bits .xor .u8 v a3) = L at ho2 hBL hne hLl
    obtain ⟨A, c', he, hc, hr⟩ := ho2.ri
    injection he with e3 e4 e5
    subst e3 e5
    have hs := sum_ok (some ⟨g, 0, none⟩) c L w3 hr hc hBL (by omega)
    rw [hLl] at hs
    refine hs.mono ?_
    rintro e w4 ⟨rfl, n, rfl⟩
    have HW3 := Lib.hid hW3
    have R0' := Lib.hid (R0.out.below hW3)
    have hne' : (goes 65535 L != goes 65535 l) = true := by simpa using hne
    clear hs hr hBL hW3 ho1 ho2 hu hv c0 c1 f0 f1 hc e4 hLl hne
    go_wp2_with fail
    refine (sum_ok a0 cap0 l _ (R0'.out.drewN n) hc0 B0.out (by omega)).mono ?_
    rintro e w4 ⟨rfl, n', rfl⟩
    go_wp2_with fail
    go_ret
    exact ⟨rfl, below_drewN_ HW3.out _⟩)
end Go.Proofs.Ytobhjkephinhiaa.CrcUnlikeW
