/- The walks of civil's functions, and of the reference's alike: what each answers. -/
import Derived.Test.YtobhjkephinhiacChecked
import Derived.Test.YtobhjkephinhiacStr
import Derived.Test.YtobhjkephinhiacKp
import Derived.Deep.QuietTactic
import Derived.BigQuiet
import Derived.BigRegion
import Derived.Deep.RegionHeld3
import Derived.WalkLawsBesides
import Derived.WalkSpells
import Derived.IntWalk
import Derived.Lib.Hide
namespace Go.Proofs.Ytobhjkephinhiac.Civil
open Go.RowKit Go.Proofs.Ytobhjkephinhiac.Bk Go.Proofs.Ytobhjkephinhiac.Rw Go.Proofs.Ytobhjkephinhiac.Ow Go.Proofs.Ytobhjkephinhiac.Kp Go.Proofs.Ytobhjkephinhiac.Str

def lp (y : Int) : Bool := decide (y % 4 = 0) && (decide (y % 100 ≠ 0) || decide (y % 400 = 0))
def md (y m : Int) : Int := if m = 2 then (if lp y then 29 else 28) else if m = 4 ∨ m = 6 ∨ m = 9 ∨ m = 11 then 30 else 31
def yr (y : Int) : Int := 365 * (y - 1) + (y - 1) / 4 - (y - 1) / 100 + (y - 1) / 400
/-- The days ahead of a month. -/
def bf (y : Int) : Nat → Int
  | 0 => 0
  | 1 => 0
  | m + 2 => bf y (m + 1) + md y (m + 1 : Nat)
def gd (y m d : Int) : Bool := decide (1 ≤ y ∧ y ≤ 9999 ∧ 1 ≤ m ∧ m ≤ 12 ∧ 1 ≤ d ∧ d ≤ md y m)
def nm (y m d : Int) : Int := -719162 + yr y + d - 1 + bf y m.toNat
def date (y m d : Int) : Value := .agg #[.int .i64 y, .int .i64 m, .int .i64 d]

theorem md_bd (y m : Int) : 28 ≤ md y m ∧ md y m ≤ 31 := by unfold md; split <;> split <;> omega
theorem yr_bd (y : Int) (h0 : 1 ≤ y) (h1 : y ≤ 10400) : 0 ≤ yr y ∧ yr y ≤ 4000000 := by unfold yr; omega
theorem bf_bd (y : Int) : ∀ m : Nat, 0 ≤ bf y m ∧ bf y m ≤ 31 * m
  | 0 => by unfold bf; omega
  | 1 => by unfold bf; omega
  | m + 2 => by
    have h := bf_bd y (m + 1)
    have h2 := md_bd y (m + 1 : Nat)
    unfold bf
    omega

theorem leap_ok (y : Int) (w : World) (h0 : 1 ≤ y) (h1 : y ≤ 20000) :
    Calls Try.prog 27 #[.int .i64 y] w fun e w' => e = .returned (.bool (lp y)) ∧ w = w' := by
  by_cases a : y % 4 = 0
  · by_cases b : y % 100 = 0
    · by_cases c : y % 400 = 0
      · have e : lp y = true := by simp [lp, a, c]
        rw [e]
        clear e
        go_enter Try.func27, Try.ntmps27
        go_wp2
        go_ret
        exact ⟨rfl, rfl⟩
      · have e : lp y = false := by simp [lp, a, b, c]
        have c' : (y % 400 == 0) = false := by simp [c]
        rw [e]
        clear e
        go_enter Try.func27, Try.ntmps27
        go_wp2
        go_ret
        exact ⟨rfl, rfl⟩
    · have e : lp y = true := by simp [lp, a, b]
      rw [e]
      clear e
      go_enter Try.func27, Try.ntmps27
      go_wp2
      go_ret
      exact ⟨rfl, rfl⟩
  · have e : lp y = false := by simp [lp, a]
    rw [e]
    clear e
    go_enter Try.func27, Try.ntmps27
    go_wp2
    go_ret
    exact ⟨rfl, rfl⟩
theorem idx (m : Int) (h2 : 1 ≤ m) (h3 : m ≤ 12) (w : World) : (Instr.index 49 (.agg #[.int .i64 0, .int .i64 31, .int .i64 28, .int .i64 31, .int .i64 30, .int .i64 31, .int .i64 30, .int .i64 31, .int .i64 31, .int .i64 30, .int .i64 31, .int .i64 30, .int .i64 31]) (.int .i64 m)).run Try.prog w = .ok (.int .i64 (if m = 2 then 28 else if m = 4 ∨ m = 6 ∨ m = 9 ∨ m = 11 then 30 else 31)) w := by
  rcases (by omega : m = 1 ∨ m = 2 ∨ m = 3 ∨ m = 4 ∨ m = 5 ∨ m = 6 ∨ m = 7 ∨ m = 8 ∨ m = 9 ∨ m = 10 ∨ m = 11 ∨ m = 12) with rfl | rfl | rfl | rfl | rfl | rfl | rfl | rfl | rfl | rfl | rfl | rfl <;> rfl
theorem month_ok (y m : Int) (w : World) (h0 : 1 ≤ y) (h1 : y ≤ 20000) (h2 : 1 ≤ m) (h3 : m ≤ 12) :
    Calls Try.prog 24 #[.int .i64 y, .int .i64 m] w fun e w' => e = .returned (.int .i64 (md y m)) ∧ w = w' := by
  by_cases hm : m = 2
  · subst hm
    cases hl : lp y
    · have e : md y 2 = 28 := by simp [md, hl]
      have hi := fun w => idx 2 (by omega) (by omega) w
      rw [if_pos rfl] at hi
      rw [e]
      clear e
      go_enter Try.func24, Try.ntmps24
      go_wp2_with (go_at_call 27; with_reducible refine Calls.mono (leap_ok y _ h0 h1) ?_; rintro e w' ⟨rfl, rfl⟩)
      go_ret
      exact ⟨rfl, rfl⟩
    · have e : md y 2 = 29 := by simp [md, hl]
      rw [e]
      clear e
      go_enter Try.func24, Try.ntmps24
      go_wp2_with (go_at_call 27; with_reducible refine Calls.mono (leap_ok y _ h0 h1) ?_; rintro e w' ⟨rfl, rfl⟩)
      go_ret
      exact ⟨rfl, rfl⟩
  · have e : md y m = if m = 4 ∨ m = 6 ∨ m = 9 ∨ m = 11 then 30 else 31 := by simp [md, hm]
    rw [e]
    have hi := fun w => idx m h2 h3 w
    rw [if_neg hm] at hi
    clear e
    have hm2 : (m == 2) = false := by simp [hm]
    generalize (if m = 4 ∨ m = 6 ∨ m = 9 ∨ m = 11 then (30 : Int) else 31) = v at hi ⊢
    go_enter Try.func24, Try.ntmps24
    go_wp2
    go_ret
    exact ⟨rfl, rfl⟩
theorem years_ok (y : Int) (w : World) (h0 : 1 ≤ y) (h1 : y ≤ 20000) :
    Calls Try.prog 23 #[.int .i64 y] w fun e w' => e = .returned (.int .i64 (yr y)) ∧ w = w' := by
  unfold yr
  go_enter Try.func23, Try.ntmps23
  go_wp2
  go_ret
  exact ⟨rfl, rfl⟩

set_option maxHeartbeats 1000000 in
theorem good_ok (y m d : Int) (w : World) :
    Calls Try.prog 15 #[date y m d] w fun e w' => e = .returned (.bool (gd y m d)) ∧ Below w.heap.size w w' := by
  have HA := Lib.hid ((Below.refl w.heap.size w).alloc (Nat.le_refl _) (.cells #[.int .i64 y, .int .i64 m, .int .i64 d] 24))
  unfold date
  by_cases a0 : 1 ≤ y
  rotate_left
  · rw [show gd y m d = false by simp [gd, a0]]
    have g0 : decide (1 ≤ y) = false := decide_eq_false a0
    clear a0
    go_enter Try.func15, Try.ntmps15
    go_wp2
    go_quiet (fail)
    go_wp2
    go_ret
    exact ⟨rfl, below_drewN_ HA.out _⟩
  have g0 : decide (1 ≤ y) = true := decide_eq_true a0
  by_cases a1 : y ≤ 9999
  rotate_left
  · rw [show gd y m d = false by simp [gd, a1]]
    have g1 : decide (y ≤ 9999) = false := decide_eq_false a1
    clear a1
    go_enter Try.func15, Try.ntmps15
    go_wp2
    go_quiet (fail)
    go_wp2
    go_ret
    exact ⟨rfl, below_drewN_ HA.out _⟩
  have g1 : decide (y ≤ 9999) = true := decide_eq_true a1
  by_cases a2 : 1 ≤ m
  rotate_left
  · rw [show gd y m d = false by simp [gd, a2]]
    have g2 : decide (1 ≤ m) = false := decide_eq_false a2
    clear a2
    go_enter Try.func15, Try.ntmps15
    go_wp2
    go_quiet (fail)
    go_wp2
    go_ret
    exact ⟨rfl, below_drewN_ HA.out _⟩
  have g2 : decide (1 ≤ m) = true := decide_eq_true a2
  by_cases a3 : m ≤ 12
  rotate_left
  · rw [show gd y m d = false by simp [gd, a3]]
    have g3 : decide (m ≤ 12) = false := decide_eq_false a3
    clear a3
    go_enter Try.func15, Try.ntmps15
    go_wp2
    go_quiet (fail)
    go_wp2
    go_ret
    exact ⟨rfl, below_drewN_ HA.out _⟩
  have g3 : decide (m ≤ 12) = true := decide_eq_true a3
  by_cases a4 : 1 ≤ d
  rotate_left
  · rw [show gd y m d = false by simp [gd, a4]]
    have g4 : decide (1 ≤ d) = false := decide_eq_false a4
    clear a4
    go_enter Try.func15, Try.ntmps15
    go_wp2
    go_quiet (fail)
    go_wp2
    go_ret
    exact ⟨rfl, below_drewN_ HA.out _⟩
  have g4 : decide (1 ≤ d) = true := decide_eq_true a4
  rw [show gd y m d = decide (d ≤ md y m) by simp [gd, a0, a1, a2, a3, a4]]
  have HC := Lib.hid (fun w => sym (month_ok y m w a0 (by omega) a2 a3))
  clear a0 a1 a2 a3 a4
  go_enter Try.func15, Try.ntmps15
  go_wp2
  go_quiet ((go_at_call 24; exact Calls.quiet_of_same (HC.out _)))
  go_wp2
  go_ret
  exact ⟨rfl, below_drewN_ HA.out _⟩

theorem bf_succ (y : Int) (k : Nat) (h : 1 ≤ k) : bf y (k + 1) = bf y k + md y k := by
  obtain ⟨j, rfl⟩ : ∃ j, k = j + 1 := ⟨k - 1, by omega⟩
  rfl
theorem num_no (y m d : Int) (w : World) (hg : gd y m d = false) :
    Calls Try.prog 13 #[date y m d] w fun e w' => e = .returned (.tuple #[.int .i64 0, .bool false]) ∧ Below w.heap.size w w' := by
  have HA := Lib.hid ((Below.refl w.heap.size w).alloc (Nat.le_refl _) (.cells #[.int .i64 y, .int .i64 m, .int .i64 d] 24))
  have HG := Lib.hid (fun w => good_ok y m d w)
  rw [hg] at HG
  clear hg
  unfold date at HG ⊢
  go_enter Try.func13, Try.ntmps13
  go_wp2_with fail
  refine (HG.out _).mono ?_
  rintro e w2 ⟨rfl, hb⟩
  have HB := Lib.hid (HA.out.trans (hb.mono (by simp)))
  clear hb
  go_wp2
  go_ret2
  exact ⟨rfl, HB.out⟩
theorem num_ok (y m d : Int) (w : World) (hg : gd y m d = true) :
    Calls Try.prog 13 #[date y m d] w fun e w' => e = .returned (.tuple #[.int .i64 (nm y m d), .bool true]) ∧ Below w.heap.size w w' := by
  have HA := Lib.hid ((Below.refl w.heap.size w).alloc (Nat.le_refl _) (.cells #[.int .i64 y, .int .i64 m, .int .i64 d] 24))
  have HG := Lib.hid (fun w => good_ok y m d w)
  rw [hg] at HG
  have hgd := of_decide_eq_true hg
  obtain ⟨h0, h1, h2, h3, h4, h5⟩ := hgd
  have hmd := md_bd y m
  have hyr := yr_bd y h0 (by omega)
  clear hg
  obtain ⟨k, rfl⟩ := Int.eq_ofNat_of_zero_le (show 0 ≤ m by omega)
  unfold nm
  rw [Int.toNat_natCast]
  unfold date at HG ⊢
  have HY := Lib.hid (fun w => years_ok y w h0 (by omega))
  generalize yr y = Y at HY hyr ⊢
  go_enter Try.func13, Try.ntmps13
  go_wp2_with fail
  refine (HG.out _).mono ?_
  rintro e w2 ⟨rfl, hb⟩
  have HB := Lib.hid (HA.out.trans (hb.mono (by simp)))
  have hbk : Blk w2 w.heap.size 24 #[.int .i64 y, .int .i64 k, .int .i64 d] := Blk.keeps (Blk.new _ _ _) hb
  have c0 : w2.cell? ⟨w.heap.size, 0, none⟩ = some (.int .i64 y) := hbk.cell 0
  have c2 : w2.cell? ⟨w.heap.size, 2, none⟩ = some (.int .i64 d) := hbk.cell 2
  have HBK := Lib.hid hbk
  clear hb HA HG hbk
  go_wp2
  go_quiet ((go_at_call 23; exact Calls.quiet_of_same (sym (HY.out _))))
  have d0 : (w2.drewN nq).cell? ⟨w.heap.size, 0, none⟩ = some (.int .i64 y) := HBK.out.cell 0
  have d1 : (w2.drewN nq).cell? ⟨w.heap.size, 1, none⟩ = some (.int .i64 k) := HBK.out.cell 1
  have HB3 := Lib.hid (below_drewN_ HB.out nq)
  clear HB HBK HY c0 c2
  generalize w2.drewN nq = w3 at d0 d1 HB3 ⊢
  go_wp2
  go_loopw [4, 5] (fun n i wr => ∃ j : Nat, 1 ≤ j ∧ j ≤ k ∧ n = .int .i64 (-719162 + Y + d - 1 + bf y j) ∧ i = .int .i64 j ∧ wr = w3) (fun _ i _ => k - (intOf i).toNat)
  case atStart => exact ⟨1, by omega, by omega, by simp [bf], rfl, rfl⟩
  case round =>
    obtain ⟨j, hj, hjk, rfl, rfl, rfl⟩ := hrel
    have hbf := bf_bd y j
    by_cases hlt : j < k
    · have hs := bf_succ y j hj
      have HM := Lib.hid (fun w => month_ok y j w h0 (by omega) (by omega) (by omega))
      have hmj := md_bd y j
      have HS := Lib.hid hs
      clear hs
      generalize md y j = M at HM hmj HS
      generalize bf y j = Bf at hbf HS ⊢
      go_wp2_with (go_at_call 24; with_reducible refine Calls.mono (HM.out _) ?_; rintro e w' ⟨rfl, rfl⟩)
      go_roundw
      case rel => exact ⟨j + 1, by omega, by omega, by rw [HS.out]; exact congrArg _ (by omega), by go_num, by first | rfl | trivial⟩
      case measure => simp [intOf]; omega
    · obtain rfl : j = k := by omega
      go_wp2
      go_ret2
      exact ⟨rfl, HB3.out⟩

/-- So many digits of a number. -/
def digs (n : Int) : Nat → List Int
  | 0 => []
  | s + 1 => digs (n / 10) s ++ [48 + n % 10]
theorem digs_length : ∀ (s : Nat) (n : Int), (digs n s).length = s
  | 0, _ => rfl
  | s + 1, n => by simp [digs, digs_length s]
/-- A number without its last digits. -/
def dv (n : Int) : Nat → Int
  | 0 => n
  | j + 1 => dv n j / 10
theorem dv_comm (n : Int) : ∀ j, dv (n / 10) j = dv n j / 10
  | 0 => rfl
  | j + 1 => by unfold dv; rw [dv_comm n j]
theorem dv_bd (n : Int) (h : 0 ≤ n) : ∀ j, 0 ≤ dv n j ∧ dv n j ≤ n
  | 0 => ⟨h, Int.le_refl _⟩
  | j + 1 => by have := dv_bd n h j; unfold dv; omega
theorem digs_at : ∀ (s : Nat) (n : Int) (j : Nat), j < s → (digs n s)[s - 1 - j]? = some (48 + dv n j % 10)
  | 0, _, _, h => by omega
  | s + 1, n, 0, _ => by
    unfold digs
    rw [List.getElem?_append_right (by rw [digs_length]; omega), digs_length]
    simp [dv]
  | s + 1, n, j + 1, h => by
    unfold digs
    rw [List.getElem?_append_left (by rw [digs_length]; omega), show s + 1 - 1 - (j + 1) = s - 1 - j by omega, digs_at s (n / 10) j (by omega), dv_comm]
    rfl

theorem digs_bytes : ∀ (s : Nat) (n : Int), 0 ≤ n → ∀ x ∈ digs n s, 0 ≤ x ∧ x ≤ 255
  | 0, _, _, x, hx => by simp [digs] at hx
  | s + 1, n, hn, x, hx => by
    unfold digs at hx
    rcases List.mem_append.1 hx with h | h
    · exact digs_bytes s (n / 10) (by omega) x h
    · simp at h
      omega

set_option maxHeartbeats 1000000 in
theorem digits_ok (n : Int) (s : Nat) (w : World) (h0 : 0 ≤ n) (h1 : n ≤ 1000000) (hs : s ≤ 10) :
    Calls Try.prog 21 #[.int .i64 n, .int .i64 s] w fun e w' => e = .returned (.string (str (digs n s))) ∧ Below w.heap.size w w' := by
  go_enter Try.func21, Try.ntmps21
  go_wp2_with (with_reducible refine wp_full .u8 5 _ w.heap.size 1 rfl 48 _ _ rfl Try.underlying48 (by kernel_rfl) .i64 .i64 _ _ s rfl rfl rfl rfl ?_ ?_ ?_ ?_)
  · omega
  · unfold maxLen; omega
  · exact Nat.le_refl _
  intro w2 ho hg
  have HO := Lib.hid ho
  have HB := Lib.hid ((Below.refl w.heap.size w).grown hg (Nat.le_refl _) (fun k hk => by cases hk))
  clear ho hg
  generalize hgq : w.heap.size = g at HO HB ⊢
  have HGQ := Lib.hid hgq
  clear hgq
  go_wp2
  go_loopw [0, 6] (fun a i wr => ∃ j : Nat, ∃ o : List Int, j ≤ s ∧ a = .int .i64 (dv n j) ∧ i = .int .i64 ((s : Int) - 1 - j) ∧ o.length = s ∧ (∀ q, q < j → o[s - 1 - q]? = some (48 + dv n q % 10)) ∧ Oi .u8 5 wr g (.slice (some ⟨g, 0, none⟩) s s) o ∧ Below g w wr) (fun _ i _ => (intOf i + 1).toNat)
  case atStart => exact ⟨0, _, Nat.zero_le _, rfl, by simp, by simp, fun q hq => by omega, HO.out, HB.out⟩
  case round =>
    clear HO HB
    obtain ⟨j, o, hj, rfl, rfl, hol, hoq, ho, hb⟩ := hrel
    have HO := Lib.hid ho
    have HB := Lib.hid hb
    have HOQ := Lib.hid hoq
    have HOL := Lib.hid hol
    have hnj := dv_bd n h0 j
    have HN := Lib.hid (show dv n (j + 1) = dv n j / 10 from rfl)
    clear ho hb hoq hol
    by_cases hlt : j < s
    · obtain ⟨cg, fg⟩ : (∃ u, wr.cell? ⟨g, s - 1 - j, none⟩ = some (.int .u8 u)) ∧ wr.frozen? ⟨g, s - 1 - j, none⟩ = false := by
        obtain ⟨h1, h2⟩ | ⟨g', c', he, _, _, _, _, hcell, hfr⟩ := HO.out.form
        · cases h1
        · injection he with h1 _ _
          injection h1 with h1
          injection h1 with h1 _ _
          subst h1
          have := HOL.out
          exact ⟨⟨_, hcell (s - 1 - j) _ (List.getElem?_eq_getElem (by omega))⟩, hfr _⟩
      obtain ⟨u, cg⟩ := cg
      have hx : ∀ q, q < j + 1 → (o.set (s - 1 - j) (48 + dv n j % 10))[s - 1 - q]? = some (48 + dv n q % 10) := fun q hq => by
        have := HOL.out
        by_cases hqj : q = j
        · subst hqj
          rw [List.getElem?_set_self (by omega)]
        · rw [List.getElem?_set_ne (by omega)]
          exact HOQ.out q (by omega)
      have HX := Lib.hid hx
      have hst := (HO.out.set_ (s - 1 - j) (48 + dv n j % 10)).1
      have HST := Lib.hid hst
      have hidx : ((s : Int) - 1 - j) = ((s - 1 - j : Nat) : Int) := by omega
      rw [hidx]
      clear hx hst
      generalize dv n j = x at hnj HN HX HST ⊢
      generalize hI : s - 1 - j = I at cg fg HX HST hidx ⊢
      have HI := Lib.hid hI
      have hIs : I < s := by omega
      clear hI hidx
      go_wp2
      go_roundw
      case rel => exact ⟨j + 1, _, by omega, by rw [HN.out], by have := HI.out; exact congrArg _ (by omega), by rw [List.length_set]; exact HOL.out, HX.out, HST.out, HB.out.setCell (p := ⟨g, I, none⟩) (Nat.le_refl _) _⟩
      case measure => simp [intOf]
    · obtain rfl : j = s := by omega
      have ho : o = digs n j := by
        apply List.ext_getElem?
        intro k
        have := HOL.out
        by_cases hk : k < j
        · have h1 := HOQ.out (j - 1 - k) (by omega)
          have h2 := digs_at j n (j - 1 - k) (by omega)
          rw [show j - 1 - (j - 1 - k) = k by omega] at h1 h2
          rw [h1, h2]
        · rw [List.getElem?_eq_none (by omega), List.getElem?_eq_none (by rw [digs_length]; omega)]
      have HOO := Lib.hid ho
      obtain ⟨A, c, he, hc, hr⟩ := HO.out.ri
      injection he with e1 e2 e3
      subst e1 e3
      have k0 : (convert 48 9 (.slice (some ⟨g, 0, none⟩) j j)).run Try.prog wr = .ok (.string (str o)) wr := by
        have h := str_ok (P := Try.prog) wr 48 9 5 Try.underlying48 Try.underlying5 Try.underlying9 (some ⟨g, 0, none⟩) o j hr
        rwa [HOL.out] at h
      clear ho hr hc e2
      go_wp2
      go_ret
      refine ⟨by rw [HOO.out]; rfl, ?_⟩
      rw [HGQ.out]
      exact HB.out
end Go.Proofs.Ytobhjkephinhiac.Civil
