/- Two numbers that are read one behind the other are the one that is read at once. No condition. -/
import Derived.Test.YtbhcnepgkbpncaaPen
import Derived.Test.YtbhcnepgkbpncaaLf
namespace Go.Proofs.Ytbhcnepgkbpncaa.OctetSplitsW
open Go.RowKit Go.Proofs.Ytbhcnepgkbpncaa.Bk Go.Proofs.Ytbhcnepgkbpncaa.Rw Go.Proofs.Ytbhcnepgkbpncaa.Ow Go.Proofs.Ytbhcnepgkbpncaa.Kp Go.Proofs.Ytbhcnepgkbpncaa.Octet Go.Proofs.Ytbhcnepgkbpncaa.Pen

def Bytes (l : List Int) : Prop := ∀ x ∈ l, 0 ≤ x ∧ x ≤ 255
/-- An argument's bytes. -/
theorem row_bytes {w : World} {A : Option Addr} {len cap : Nat} {z : List Int} (h : Lf.IsRow .u8 w A len cap z) : ∃ l, len = l.length ∧ l.length ≤ cap ∧ cap ≤ maxLen ∧ Ri .u8 w A l ∧ Bytes l := by
  rcases h with ⟨rfl, rfl, rfl, rfl⟩ | ⟨x, rfl, h1, h2, h3, h4, h5⟩
  · exact ⟨[], rfl, Nat.le_refl _, by unfold maxLen; omega, Ri.nil, fun x hx => by simp at hx⟩
  · have hl : (z.take len).length = len := by rw [List.length_take]; omega
    refine ⟨z.take len, hl.symm, by omega, h2, ⟨by omega, fun h0 => ⟨x, rfl, ?_, fun j y hy => ?_⟩⟩, fun y hy => ?_⟩
    · have := World.block_lt_of_cell? w _ (h4 0 (by omega))
      rwa [block_of_add] at this
    · rw [List.getElem?_take] at hy
      split at hy
      · have hj : j < z.length := (List.getElem?_eq_some_iff.1 hy).1
        rw [h4 j hj, List.getD_eq_getElem?_getD, hy]
        rfl
      · cases hy
    · have := h5 y (List.mem_of_mem_take hy)
      simp [Lit.wf, IntKind.min, IntKind.max, IntKind.bits, IntKind.signed] at this
      omega

theorem val_from : ∀ (b : List Int) (v : Int), b.foldl (fun n x => 256 * n + x) v = v * 256 ^ b.length + val b
  | [], v => by simp [val]
  | x :: b, v => by
    rw [List.foldl_cons, val_from b, List.length_cons]
    have h := val_from b (256 * 0 + x)
    unfold val
    rw [List.foldl_cons, h, Int.pow_succ, Int.add_mul, Int.mul_assoc, show (256 : Int) * 0 + x = x by omega]
    unfold val
    rw [Int.mul_comm 256 (v * _), Int.mul_assoc, Int.add_assoc]
theorem val_app (a b : List Int) : val (a ++ b) = val a * 256 ^ b.length + val b := by
  unfold val
  rw [List.foldl_append]
  exact val_from b _
theorem splits (l : List Int) (f s t : Nat) (h : f + s + t ≤ l.length) : val ((l.drop f).take (s + t)) = val ((l.drop f).take s) * 256 ^ t + val ((l.drop (f + s)).take t) := by
  rw [show (l.drop f).take (s + t) = (l.drop f).take s ++ (l.drop (f + s)).take t by rw [← List.drop_drop, ← List.take_add], val_app, List.length_take, List.length_drop, show min t (l.length - (f + s)) = t by omega]

theorem or_ok (x m n : Int) (s t : Nat) (hm : 0 ≤ m ∧ m < 256 ^ s) (hn : 0 ≤ n ∧ n < 256 ^ t) (hx : x < 256 ^ (s + t)) (h : x = m * 256 ^ t + n) (hst : s + t ≤ 8) : (x == Go.bits .or .u64 (IntKind.u64.wrap (m * 2 ^ (8 * t))) n) = true := by
  obtain ⟨M, rfl⟩ := Int.eq_ofNat_of_zero_le hm.1
  obtain ⟨N, rfl⟩ := Int.eq_ofNat_of_zero_le hn.1
  have hp : (256 : Int) ^ t = ((2 ^ (8 * t) : Nat) : Int) := by
    rw [Nat.pow_mul]
    simp
  have h2 : (2 : Int) ^ (8 * t) = ((2 ^ (8 * t) : Nat) : Int) := by simp
  have h8 : ∀ k : Fin 9, (256 : Int) ^ (k : Nat) ≤ 18446744073709551616 := by decide
  have h9 := h8 ⟨s + t, by omega⟩
  simp only at h9
  rw [hp] at h hn
  rw [h2]
  have hN : N < 2 ^ (8 * t) := by omega
  have ho := Nat.two_pow_add_eq_or_of_lt hN M
  generalize 2 ^ (8 * t) = q at h hn hN ho ⊢
  rw [Nat.mul_comm] at ho
  have hMq : ((M : Int) * (q : Int)) = ((M * q : Nat) : Int) := by simp
  rw [hMq] at h ⊢
  have hlt : M * q + N < 18446744073709551616 := by omega
  rw [IntWalk.u64_in _ ⟨by omega, by omega⟩]
  simp only [Go.bits, BitVec.ofInt_natCast, BitVec.toNat_or, BitVec.toNat_ofNat]
  rw [Nat.mod_eq_of_lt (show M * q < 2 ^ IntKind.u64.bits from Nat.lt_of_lt_of_le (by omega) (show 18446744073709551616 ≤ 2 ^ 64 by decide)), Nat.mod_eq_of_lt (show N < 2 ^ IntKind.u64.bits from Nat.lt_of_lt_of_le (by omega) (show 18446744073709551616 ≤ 2 ^ 64 by decide)), ← ho,
    IntWalk.u64_in _ ⟨by omega, by omega⟩]
  simp
  omega
set_option maxRecDepth 100000 in
set_option maxHeartbeats 2000000 in
set_option linter.unusedVariables false in
theorem walk (a0 : Option Addr) (len0 cap0 : Nat) (z0 : List Int) (a1 : Int) (a2 : Int) (a3 : Int) (W : World) (w0 : Lf.IsRow .u8 W a0 len0 cap0 z0) (y0 : len0 * 1 ≤ 140737488351232) (w1 : (Lit.int .i64 a1).wf = true) (w2 : (Lit.int .i64 a2).wf = true) (w3 : (Lit.int .i64 a3).wf = true) :
    Calls Try.prog 4 #[.slice a0 len0 cap0, .int .i64 a1, .int .i64 a2, .int .i64 a3] W fun e w' => e = .returned (.bool true) ∧ Below W.heap.size W w' := by
  obtain ⟨l, rfl, hc0, _, hr0, hb0⟩ := row_bytes w0
  have R0 := Lib.hid hr0
  have B0 := Lib.hid hb0
  clear hr0 hb0 w0 y0 z0
  go_enter Try.func4, Try.ntmps4
  go_wp2_with fail
  refine (alive_ok _).mono ?_
  rintro e w1 ⟨rfl, hb⟩
  have HW := Lib.hid hb
  clear hb
  by_cases hg : l.length ≤ 100 ∧ 0 ≤ a1 ∧ a1 ≤ 8 ∧ 0 ≤ a2 ∧ a2 ≤ 8 ∧ 0 ≤ a3 ∧ a3 ≤ 8 - a2 ∧ a1 + a2 + a3 ≤ l.length
  rotate_left
  · have HG := Lib.hid hg
    clear hg
    go_wp2_with fail
    all_goals first
      | (go_ret; exact ⟨rfl, HW.out⟩)
      | (refine absurd ?_ HG.out; omega)
  · obtain ⟨hl, f0, f1, s0, s1, t0, t1, hf⟩ := hg
    obtain ⟨f, rfl⟩ := Int.eq_ofNat_of_zero_le f0
    obtain ⟨s, rfl⟩ := Int.eq_ofNat_of_zero_le s0
    obtain ⟨t, rfl⟩ := Int.eq_ofNat_of_zero_le t0
    have R1 := Lib.hid (R0.out.below HW.out)
    clear R0
    go_wp2_with fail
    refine (of_ok a0 cap0 l _ R1.out (by omega)).mono ?_
    rintro e w2 ⟨p, A, c, rfl, he, hp, hA, hb⟩
    have R2 := Lib.hid (R1.out.below hb)
    have HW2 := Lib.hid (show Below W.heap.size W w2 from HW.out.trans (hb.mono HW.out.size))
    have HP := Lib.hid (show W.heap.size ≤ p from Nat.le_trans HW.out.size hp)
    have HX := Lib.hid he
    have HA := Lib.hid (fun ad h => (hA ad h).2)
    have HAW := Lib.hid (fun ad h => (hA ad h).1)
    clear hp hb hA he R1 HW
    go_wp2_with fail
    refine (of_ok a0 cap0 l _ R2.out (by omega)).mono ?_
    rintro e w3 ⟨q, A', c', rfl, he, hq, hA', hb⟩
    have HX3 := Lib.hid (show Eye w3 p A c l 0 from ⟨HX.out.1.keeps hb, HX.out.2.1.below hb, HX.out.2.2⟩)
    have HW3 := Lib.hid (show Below W.heap.size W w3 from HW2.out.trans (hb.mono HW2.out.size))
    have HQ := Lib.hid (show W.heap.size ≤ q from Nat.le_trans HW2.out.size hq)
    have HPQ := Lib.hid (show p ≠ q by have := HX.out.1.lt; omega)
    have HAQ := Lib.hid (show ∀ ad, A = some ad → ad.block ≠ q from fun ad h => by have := HA.out ad h; omega)
    have HAP := Lib.hid (show ∀ ad, A' = some ad → ad.block ≠ p from fun ad h => by have := (hA' ad h).1; have := HX.out.1.lt; omega)
    have HY3 := Lib.hid he
    clear hq hb hA' he R2 HW2 HA HAW HX
    go_wp2_with fail
    refine (num_yes p A c l 0 f _ HX3.out B0.out (by omega) (by omega)).mono ?_
    rintro e w4 ⟨rfl, he, hk⟩
    have HX4 := Lib.hid he
    have HY4 := Lib.hid (HY3.out.kp hk (fun e => HPQ.out e.symm) (fun ad h => HAP.out ad h))
    have HW4 := Lib.hid (below_kp HW3.out HW3.out.size hk (fun k hk => by subst hk; exact HP.out))
    clear he hk HX3 HY3 HW3
    go_wp2_with fail
    refine (num_yes q A' c' l 0 f _ HY4.out B0.out (by omega) (by omega)).mono ?_
    rintro e w5 ⟨rfl, he, hk⟩
    have HY5 := Lib.hid he
    have HX5 := Lib.hid (HX4.out.kp hk (fun e => HPQ.out e) (fun ad h => HAQ.out ad h))
    have HW5 := Lib.hid (below_kp HW4.out HW4.out.size hk (fun k hk => by subst hk; exact HQ.out))
    clear he hk HX4 HY4 HW4
    go_wp2_with fail
    refine (num_yes p A c l (0 + f) s _ HX5.out B0.out (by omega) (by omega)).mono ?_
    rintro e w6 ⟨rfl, he, hk⟩
    have HX6 := Lib.hid he
    have HY6 := Lib.hid (HY5.out.kp hk (fun e => HPQ.out e.symm) (fun ad h => HAP.out ad h))
    have HW6 := Lib.hid (below_kp HW5.out HW5.out.size hk (fun k hk => by subst hk; exact HP.out))
    clear he hk HX5 HY5 HW5
    go_wp2_with fail
    refine (num_yes p A c l (0 + f + s) t _ HX6.out B0.out (by omega) (by omega)).mono ?_
    rintro e w7 ⟨rfl, he, hk⟩
    have HX7 := Lib.hid he
    have HY7 := Lib.hid (HY6.out.kp hk (fun e => HPQ.out e.symm) (fun ad h => HAP.out ad h))
    have HW7 := Lib.hid (below_kp HW6.out HW6.out.size hk (fun k hk => by subst hk; exact HP.out))
    clear he hk HX6 HY6 HW6
    go_wp2_with fail
    refine (num_yes q A' c' l (0 + f) (s + t) _ HY7.out B0.out (by omega) (by omega)).mono ?_
    rintro e w8 ⟨rfl, he, hk⟩
    have HY8 := Lib.hid he
    have HX8 := Lib.hid (HX7.out.kp hk (fun e => HPQ.out e) (fun ad h => HAQ.out ad h))
    have HW8 := Lib.hid (below_kp HW7.out HW7.out.size hk (fun k hk => by subst hk; exact HQ.out))
    clear he hk HX7 HY7 HW7
    have hsp := splits l f s t (by omega)
    have hall := val_bd ((l.drop f).take (s + t)) (fun x hx => B0.out x (List.mem_of_mem_drop (List.mem_of_mem_take hx)))
    have hm := val_bd ((l.drop f).take s) (fun x hx => B0.out x (List.mem_of_mem_drop (List.mem_of_mem_take hx)))
    have hn := val_bd ((l.drop (f + s)).take t) (fun x hx => B0.out x (List.mem_of_mem_drop (List.mem_of_mem_take hx)))
    rw [List.length_take, List.length_drop, show min (s + t) (l.length - f) = s + t by omega] at hall
    rw [List.length_take, List.length_drop, show min s (l.length - f) = s by omega] at hm
    rw [List.length_take, List.length_drop, show min t (l.length - (f + s)) = t by omega] at hn
    have HLX := Lib.hid (show Calls Try.prog 9 #[.pointer (some ⟨p, 0, none⟩)] w8 fun e w' => e = .returned (.int .i64 ((l.length : Int) - (f + s + t : Nat))) ∧ ∃ m, w' = w8.drewN m by
      have := left_ok p A c l (0 + f + s + t) w8 HX8.out (by omega)
      rwa [Nat.zero_add] at this)
    have HLY := Lib.hid (show ∀ n, Calls Try.prog 9 #[.pointer (some ⟨q, 0, none⟩)] (w8.drewN n) fun e w' => e = .returned (.int .i64 ((l.length : Int) - (f + s + t : Nat))) ∧ ∃ m, w' = (w8.drewN n).drewN m from fun n => by
      have := left_ok q A' c' l (0 + f + (s + t)) (w8.drewN n) (HY8.out.drewN n) (by omega)
      rwa [Nat.zero_add, ← Nat.add_assoc] at this)
    clear HX8 HY8 B0
    rw [Nat.zero_add]
    generalize val ((l.drop f).take (s + t)) = x at hsp hall ⊢
    generalize val ((l.drop f).take s) = m at hsp hm ⊢
    generalize val ((l.drop (f + s)).take t) = n at hsp hn ⊢
    have HSP := Lib.hid hsp
    have HALL := Lib.hid hall
    have HM := Lib.hid hm
    have HN := Lib.hid hn
    clear hsp hall hm hn
    go_wp2_with (first | (go_at_call 9; with_reducible refine Calls.mono (HLX.out) ?_; rintro e w' ⟨rfl, m1, rfl⟩) | (go_at_call 9; with_reducible refine Calls.mono (HLY.out _) ?_; rintro e w' ⟨rfl, m2, rfl⟩))
    · have h8 : ((t : Int) == 8) = true := by assumption
      have ht : (t : Int) = 8 := eq_of_beq h8
      have hm := HM.out
      have hx := HSP.out
      rw [show s = 0 by omega, Int.pow_zero] at hm
      rw [show m = 0 by omega, Int.zero_mul, Int.zero_add] at hx
      go_ret
      exact ⟨by rw [hx, beq_self_eq_true]; rfl, below_drewN_ HW8.out _⟩
    · go_ret
      exact ⟨by rw [or_ok x m n s t HM.out HN.out HALL.out.2 HSP.out (by omega)]; rfl, below_drewN_ HW8.out _⟩
end Go.Proofs.Ytbhcnepgkbpncaa.OctetSplitsW
