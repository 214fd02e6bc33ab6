/- The walks of the reference's functions that Parse needs. -/
import Derived.Test.YtobhjkephinhiacCAlive
namespace Go.Proofs.Ytobhjkephinhiac.Civil
open Go.RowKit Go.Proofs.Ytobhjkephinhiac.Bk Go.Proofs.Ytobhjkephinhiac.Rw Go.Proofs.Ytobhjkephinhiac.Ow Go.Proofs.Ytobhjkephinhiac.Kp Go.Proofs.Ytobhjkephinhiac.Str

theorem long_ok (y : Int) (w : World) (h0 : 1 ≤ y) (h1 : y ≤ 20000) :
    Calls Try.prog 14 #[.int .i64 y] w fun e w' => e = .returned (.bool (lp y)) ∧ w = w' := by
  by_cases c : y % 400 = 0
  · rw [show lp y = true by simp [lp, c]; omega]
    go_enter Try.func14, Try.ntmps14
    go_wp2
    go_ret
    exact ⟨rfl, rfl⟩
  · have c' : (y % 400 == 0) = false := by simp [c]
    by_cases a : y % 4 = 0
    · by_cases b : y % 100 = 0
      · have b' : (y % 100 != 0) = false := by simp [b]
        rw [show lp y = false by simp [lp, a, b, c]]
        go_enter Try.func14, Try.ntmps14
        go_wp2
        go_ret
        exact ⟨rfl, rfl⟩
      · have b' : (y % 100 != 0) = true := by simp [b]
        rw [show lp y = true by simp [lp, a, b]]
        go_enter Try.func14, Try.ntmps14
        go_wp2
        go_ret
        exact ⟨rfl, rfl⟩
    · have a' : (y % 4 == 0) = false := by simp [a]
      rw [show lp y = false by simp [lp, a]]
      go_enter Try.func14, Try.ntmps14
      go_wp2
      go_ret
      exact ⟨rfl, rfl⟩
theorem days_ok (y m : Int) (w : World) (h0 : 1 ≤ y) (h1 : y ≤ 20000) (h2 : 1 ≤ m) (h3 : m ≤ 12) :
    Calls Try.prog 22 #[.int .i64 y, .int .i64 m] w fun e w' => e = .returned (.int .i64 (md y m)) ∧ w = w' := by
  rcases (by omega : m = 2 ∨ m = 1 ∨ m = 3 ∨ m = 4 ∨ m = 5 ∨ m = 6 ∨ m = 7 ∨ m = 8 ∨ m = 9 ∨ m = 10 ∨ m = 11 ∨ m = 12) with rfl | rfl | rfl | rfl | rfl | rfl | rfl | rfl | rfl | rfl | rfl | rfl
  · cases hl : lp y
    · rw [show md y 2 = 28 by simp [md, hl]]
      have HL := Lib.hid (fun w => long_ok y w h0 h1)
      rw [hl] at HL
      clear hl
      go_enter Try.func22, Try.ntmps22
      go_wp2_with (go_at_call 14; with_reducible refine Calls.mono (HL.out _) ?_; rintro e w' ⟨rfl, rfl⟩)
      go_ret
      exact ⟨rfl, rfl⟩
    · rw [show md y 2 = 29 by simp [md, hl]]
      have HL := Lib.hid (fun w => long_ok y w h0 h1)
      rw [hl] at HL
      clear hl
      go_enter Try.func22, Try.ntmps22
      go_wp2_with (go_at_call 14; with_reducible refine Calls.mono (HL.out _) ?_; rintro e w' ⟨rfl, rfl⟩)
      go_ret
      exact ⟨rfl, rfl⟩
  all_goals
    go_enter Try.func22, Try.ntmps22
    go_wp2
    go_ret
    exact ⟨rfl, rfl⟩
set_option maxHeartbeats 1000000 in
theorem refgood_ok (y m d : Int) (w : World) :
    Calls Try.prog 12 #[date y m d] w fun e w' => e = .returned (.bool (gd y m d)) ∧ Below w.heap.size w w' := by
  have HA := Lib.hid ((Below.refl w.heap.size w).alloc (Nat.le_refl _) (.cells #[.int .i64 y, .int .i64 m, .int .i64 d] 27))
  unfold date
  by_cases a0 : 1 ≤ y
  rotate_left
  · rw [show gd y m d = false by simp [gd, a0]]
    have g0 : decide (1 ≤ y) = false := decide_eq_false a0
    clear a0
    go_enter Try.func12, Try.ntmps12
    go_wp2
    go_quiet (fail)
    go_wp2
    go_ret
    exact ⟨rfl, below_drewN_ HA.out _⟩
  have g0 : decide (1 ≤ y) = true := decide_eq_true a0
  by_cases a1 : y ≤ 9999
  rotate_left
  · rw [show gd y m d = false by simp [gd, a1]]
    have g1 : decide (y ≤ 9999) = false := decide_eq_false a1
    clear a1
    go_enter Try.func12, Try.ntmps12
    go_wp2
    go_quiet (fail)
    go_wp2
    go_ret
    exact ⟨rfl, below_drewN_ HA.out _⟩
  have g1 : decide (y ≤ 9999) = true := decide_eq_true a1
  by_cases a2 : 1 ≤ m
  rotate_left
  · rw [show gd y m d = false by simp [gd, a2]]
    have g2 : decide (1 ≤ m) = false := decide_eq_false a2
    clear a2
    go_enter Try.func12, Try.ntmps12
    go_wp2
    go_quiet (fail)
    go_wp2
    go_ret
    exact ⟨rfl, below_drewN_ HA.out _⟩
  have g2 : decide (1 ≤ m) = true := decide_eq_true a2
  by_cases a3 : m ≤ 12
  rotate_left
  · rw [show gd y m d = false by simp [gd, a3]]
    have g3 : decide (m ≤ 12) = false := decide_eq_false a3
    clear a3
    go_enter Try.func12, Try.ntmps12
    go_wp2
    go_quiet (fail)
    go_wp2
    go_ret
    exact ⟨rfl, below_drewN_ HA.out _⟩
  have g3 : decide (m ≤ 12) = true := decide_eq_true a3
  by_cases a4 : 1 ≤ d
  rotate_left
  · rw [show gd y m d = false by simp [gd, a4]]
    have g4 : decide (1 ≤ d) = false := decide_eq_false a4
    clear a4
    go_enter Try.func12, Try.ntmps12
    go_wp2
    go_quiet (fail)
    go_wp2
    go_ret
    exact ⟨rfl, below_drewN_ HA.out _⟩
  have g4 : decide (1 ≤ d) = true := decide_eq_true a4
  rw [show gd y m d = decide (d ≤ md y m) by simp [gd, a0, a1, a2, a3, a4]]
  have HC := Lib.hid (fun w => sym (days_ok y m w a0 (by omega) a2 a3))
  clear a0 a1 a2 a3 a4
  go_enter Try.func12, Try.ntmps12
  go_wp2
  go_quiet ((go_at_call 22; exact Calls.quiet_of_same (HC.out _)))
  go_wp2
  go_ret
  exact ⟨rfl, below_drewN_ HA.out _⟩

instance (x : Int) : Decidable (isd x) := by unfold isd; infer_instance
/-- The number of a text that is digits alone, or -1. -/
def nb (l : List Int) : Int := if (∀ x ∈ l, isd x) then dval l else -1
theorem byte_at (s : ByteArray) (i : Nat) (h : i < s.size) : (bl s)[i]? = some ((s[i].toNat : Nat) : Int) := by
  unfold bl
  rw [List.getElem?_map, Array.getElem?_toList]
  show Option.map _ (s.data[i]?) = _
  rw [Array.getElem?_eq_getElem (show i < s.data.size from h)]
  rfl
theorem number_ok (s : ByteArray) (w : World) (hs : s.size ≤ 10) : Calls Try.prog 20 #[.string s] w fun e w' => e = .returned (.int .i64 (nb (bl s))) ∧ w = w' := by
  have hbl := bl_length s
  have HBL := Lib.hid hbl
  clear hbl
  go_enter Try.func20, Try.ntmps20
  go_wp2
  go_loopw [3, 4] (fun a i wr => ∃ j : Nat, j ≤ s.size ∧ a = .int .i64 (dval ((bl s).take j)) ∧ i = .int .i64 j ∧ (∀ k, k < j → ∃ x, (bl s)[k]? = some x ∧ isd x) ∧ wr = w) (fun _ i _ => s.size - (intOf i).toNat)
  case atStart => exact ⟨0, Nat.zero_le _, rfl, rfl, fun k hk => by omega, rfl⟩
  case round =>
    obtain ⟨j, hj, rfl, rfl, hd, rfl⟩ := hrel
    have HD := Lib.hid hd
    have hv : 0 ≤ dval ((bl s).take j) ∧ dval ((bl s).take j) < 10 ^ j := by
      have := dval_bd ((bl s).take j) (fun k hk => by
        rw [List.length_take] at hk
        obtain ⟨x, hx, h⟩ := hd k (by omega)
        exact ⟨x, by rw [List.getElem?_take, if_pos (by omega)]; exact hx, h⟩) j (by rw [List.length_take, HBL.out]; omega)
      rwa [List.take_take, Nat.min_self] at this
    have h10 : ∀ k : Fin 11, (10 : Int) ^ (k : Nat) ≤ 10000000000 := by decide
    have h11 := h10 ⟨j, by omega⟩
    simp only at h11
    have hv2 : dval ((bl s).take j) < 10000000000 := by omega
    obtain ⟨hv0, _⟩ := hv
    clear hd h10 h11
    by_cases hlt : j < s.size
    · have hb := byte_at s j hlt
      have hn := take_next hb
      have HB := Lib.hid hb
      have HN := Lib.hid hn
      clear hb hn
      have hidx : ∀ t k w, Try.prog.underlying t = some .string → (Instr.index t (.string s) (.int k (j : Int))).run Try.prog w = .ok (.int .u8 ((s[j].toNat : Nat) : Int)) w := fun t k w ht => by
        rw [run_index_string (P := Try.prog) w t s k (j : Int) ht, dif_pos ⟨by omega, by omega⟩]
        rfl
      have hi9 := fun k w => hidx 9 k w Try.underlying9
      have hx : 0 ≤ ((s[j].toNat : Nat) : Int) ∧ ((s[j].toNat : Nat) : Int) ≤ 255 := by have := s[j].toNat_lt; omega
      clear hidx
      generalize ((s[j].toNat : Nat) : Int) = x at HB HN hx hi9
      generalize dval ((bl s).take j) = y at hv0 hv2 HN ⊢
      by_cases hd : 48 ≤ x ∧ x ≤ 57
      · obtain ⟨d0, d1⟩ := hd
        go_wp2
        go_roundw
        case rel => exact ⟨j + 1, by omega, by rw [HN.out], by go_num, fun k hk => by
          by_cases e : k = j
          · subst e
            exact ⟨x, HB.out, d0, d1⟩
          · exact HD.out k (by omega), by first | rfl | trivial⟩
        case measure => simp [intOf]; omega
      · have hnb : nb (bl s) = -1 := by
          unfold nb
          rw [if_neg]
          intro h
          exact hd (h x (List.mem_of_getElem? HB.out))
        have HNB := Lib.hid hnb
        clear hnb
        go_wp2
        all_goals
          go_ret
          exact ⟨by rw [HNB.out]; rfl, rfl⟩
    · obtain rfl : j = s.size := by omega
      have hnb : nb (bl s) = dval ((bl s).take s.size) := by
        unfold nb
        rw [if_pos, List.take_of_length_le (by have := HBL.out; omega)]
        intro x hx
        obtain ⟨k, hk, he⟩ := List.getElem_of_mem hx
        obtain ⟨y, h1, h2⟩ := HD.out k (by have := HBL.out; omega)
        rw [List.getElem?_eq_getElem hk, he] at h1
        injection h1 with h1
        rwa [h1]
      have HNB := Lib.hid hnb
      clear hnb
      go_wp2
      go_ret
      exact ⟨by rw [HNB.out]; rfl, rfl⟩
end Go.Proofs.Ytobhjkephinhiac.Civil
