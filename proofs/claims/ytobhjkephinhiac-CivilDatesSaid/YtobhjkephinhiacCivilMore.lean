/- The walks of Of, and of the reference's Number and Text. -/
import Derived.Test.YtobhjkephinhiacCivilRef
import Derived.Test.YtobhjkephinhiacCivilMath
namespace Go.Proofs.Ytobhjkephinhiac.Civil
open Go.RowKit Go.Proofs.Ytobhjkephinhiac.Bk Go.Proofs.Ytobhjkephinhiac.Rw Go.Proofs.Ytobhjkephinhiac.Ow Go.Proofs.Ytobhjkephinhiac.Kp Go.Proofs.Ytobhjkephinhiac.Str

theorem ahead_ok (y : Int) (w : World) (h0 : 1 ≤ y) (h1 : y ≤ 10000) :
    Calls Try.prog 26 #[.int .i64 y] w fun e w' => e = .returned (.int .i64 (yr y)) ∧ w = w' := by
  go_enter Try.func26, Try.ntmps26
  go_wp2
  go_loopw [3, 4] (fun n q wr => ∃ k : Int, 1 ≤ k ∧ k ≤ y ∧ n = .int .i64 (yr k) ∧ q = .int .i64 k ∧ wr = w) (fun _ q _ => (y - intOf q).toNat)
  case atStart => exact ⟨1, by omega, h0, by rw [show yr 1 = 0 by decide], rfl, rfl⟩
  case round =>
    obtain ⟨k, hk, hky, rfl, rfl, rfl⟩ := hrel
    have hb := yr_bd k hk (by omega)
    by_cases hlt : k + 400 ≤ y
    · have hc := yr_cent k
      have HC := Lib.hid hc
      clear hc
      generalize yr k = v at hb HC ⊢
      go_wp2
      go_roundw
      case rel => exact ⟨k + 400, by omega, hlt, by rw [HC.out], rfl, by first | rfl | trivial⟩
      case measure => simp [intOf]; omega
    · go_wp2
      go_loopw [3, 4] (fun n q wr' => ∃ k : Int, 1 ≤ k ∧ k ≤ y ∧ n = .int .i64 (yr k) ∧ q = .int .i64 k ∧ wr' = wr) (fun _ q _ => (y - intOf q).toNat)
      case atStart => exact ⟨k, hk, hky, rfl, rfl, rfl⟩
      case round =>
        obtain ⟨k, hk, hky, rfl, rfl, rfl⟩ := hrel
        have hb := yr_bd k hk (by omega)
        by_cases hlt : k < y
        · have hc := yr_succ k hk
          have HLo := Lib.hid (fun w => long_ok k w hk (by omega))
          cases hl : lp k
          all_goals
            rw [hl] at hc HLo
            simp only [if_true, if_false, Bool.false_eq_true] at hc
            have HC := Lib.hid hc
            clear hc hl
            generalize yr k = v at hb HC ⊢
            go_wp2_with (go_at_call 14; with_reducible refine Calls.mono (HLo.out _) ?_; rintro e w' ⟨rfl, rfl⟩)
            go_roundw
            case rel => exact ⟨k + 1, by omega, by omega, by rw [HC.out] <;> exact congrArg _ (by omega), rfl, by first | rfl | trivial⟩
            case measure => simp [intOf]; omega
        · obtain rfl : k = y := by omega
          go_wp2
          go_ret
          exact ⟨rfl, rfl⟩

theorem yr1970 : yr 1970 = 719162 := by decide
theorem refnum_ok (y m d : Int) (w : World) (hg : gd y m d = true) :
    Calls Try.prog 17 #[date y m d] w fun e w' => e = .returned (.int .i64 (nm y m d)) ∧ Below w.heap.size w w' := by
  have HA := Lib.hid ((Below.refl w.heap.size w).alloc (Nat.le_refl _) (.cells #[.int .i64 y, .int .i64 m, .int .i64 d] 27))
  have hgd := of_decide_eq_true hg
  obtain ⟨h0, h1, h2, h3, h4, h5⟩ := hgd
  have hmd := md_bd y m
  have hyr := yr_bd y h0 (by omega)
  clear hg
  obtain ⟨k, rfl⟩ := Int.eq_ofNat_of_zero_le (show 0 ≤ m by omega)
  unfold nm
  rw [Int.toNat_natCast]
  unfold date
  have HY := Lib.hid (fun w => ahead_ok y w h0 (by omega))
  have HZ := Lib.hid (fun w => ahead_ok 1970 w (by omega) (by omega))
  rw [yr1970] at HZ
  generalize yr y = Y at HY hyr ⊢
  go_enter Try.func17, Try.ntmps17
  go_wp2_with (first | (go_at_call 26; with_reducible refine Calls.mono (HY.out _) ?_; rintro e w' ⟨rfl, rfl⟩) | (go_at_call 26; with_reducible refine Calls.mono (HZ.out _) ?_; rintro e w' ⟨rfl, rfl⟩))
  obtain ⟨w3, hw3, hbk⟩ : ∃ w3, w.alloc (.cells #[.int .i64 y, .int .i64 k, .int .i64 d] 27) = w3 ∧ Blk w3 w.heap.size 27 #[.int .i64 y, .int .i64 k, .int .i64 d] := ⟨_, rfl, Blk.new _ _ _⟩
  have HB3 := Lib.hid (hw3 ▸ HA.out)
  have d0 : w3.cell? ⟨w.heap.size, 0, none⟩ = some (.int .i64 y) := hbk.cell 0
  have d1 : w3.cell? ⟨w.heap.size, 1, none⟩ = some (.int .i64 k) := hbk.cell 1
  have d2 : w3.cell? ⟨w.heap.size, 2, none⟩ = some (.int .i64 d) := hbk.cell 2
  rw [hw3]
  clear HY HZ HA hbk hw3
  go_loopw [3, 4] (fun n i wr => ∃ j : Nat, 1 ≤ j ∧ j ≤ k ∧ n = .int .i64 (Y - 719162 + bf y j) ∧ i = .int .i64 j ∧ wr = w3) (fun _ i _ => k - (intOf i).toNat)
  case atStart => exact ⟨1, by omega, by omega, by simp [bf], rfl, rfl⟩
  case round =>
    obtain ⟨j, hj, hjk, rfl, rfl, rfl⟩ := hrel
    have hbf := bf_bd y j
    by_cases hlt : j < k
    · have hs := bf_succ y j hj
      have HM := Lib.hid (fun w => days_ok y j w h0 (by omega) (by omega) (by omega))
      have hmj := md_bd y j
      have HS := Lib.hid hs
      clear hs
      generalize md y j = M at HM hmj HS
      generalize bf y j = Bf at hbf HS ⊢
      go_wp2_with (go_at_call 22; with_reducible refine Calls.mono (HM.out _) ?_; rintro e w' ⟨rfl, rfl⟩)
      go_roundw
      case rel => exact ⟨j + 1, by omega, by omega, by rw [HS.out]; exact congrArg _ (by omega), by go_num, by first | rfl | trivial⟩
      case measure => simp [intOf]; omega
    · obtain rfl : j = k := by omega
      go_wp2
      go_ret
      refine ⟨?_, HB3.out⟩
      show Ending.returned (Value.int .i64 (Y - 719162 + bf y j + d - 1)) = _
      rw [show Y - 719162 + bf y j + d - 1 = -719162 + Y + d - 1 + bf y j by omega]

theorem digs_cons : ∀ (j : Nat) (n : Int), digs n (j + 1) = (48 + dv n j % 10) :: digs n j
  | 0, n => by simp [digs, dv]
  | j + 1, n => by
    rw [show digs n (j + 1 + 1) = digs (n / 10) (j + 1) ++ [48 + n % 10] from rfl, digs_cons j (n / 10), dv_comm]
    rfl
set_option maxHeartbeats 1000000 in
theorem two_ok (n : Int) (s : Nat) (w : World) (h0 : 0 ≤ n) (h1 : n ≤ 1000000) (hs : s ≤ 10) :
    Calls Try.prog 25 #[.int .i64 n, .int .i64 s] w fun e w' => e = .returned (.string (str (digs n s))) ∧ Below w.heap.size w w' := by
  have HB := Lib.hid (Below.refl w.heap.size w)
  go_enter Try.func25, Try.ntmps25
  go_wp2
  go_loopw [0, 5, 6] (fun a t i wr => ∃ j : Nat, j ≤ s ∧ a = .int .i64 (dv n j) ∧ t = .string (str (digs n j)) ∧ i = .int .i64 j ∧ Below w.heap.size w wr) (fun _ _ i _ => s - (intOf i).toNat)
  case atStart => exact ⟨0, Nat.zero_le _, rfl, rfl, rfl, HB.out⟩
  case round =>
    clear HB
    obtain ⟨j, hj, rfl, rfl, rfl, hb⟩ := hrel
    have HB := Lib.hid hb
    clear hb
    have hnj := dv_bd n h0 j
    have HN := Lib.hid (show dv n (j + 1) = dv n j / 10 from rfl)
    by_cases hlt : j < s
    · have hsz : (str (digs n j)).size = j := by rw [str_size, digs_length]
      have hx : 0 ≤ 48 + dv n j % 10 ∧ 48 + dv n j % 10 ≤ 57 := by omega
      have hc := digs_cons j n
      have k0 : ∀ (_o : Unit), (convert 48 9 (.slice (some ⟨wr.heap.size, 0, none⟩) 1 1)).run Try.prog (wr.alloc (.cells #[.int .u8 (48 + dv n j % 10)] 5)) = .ok (.string (str [48 + dv n j % 10])) (wr.alloc (.cells #[.int .u8 (48 + dv n j % 10)] 5)) := fun _ => str_ok (P := Try.prog) _ 48 9 5 Try.underlying48 Try.underlying5 Try.underlying9 (some ⟨wr.heap.size, 0, none⟩) [48 + dv n j % 10] 1 (Ri.lit .u8 5 wr [48 + dv n j % 10] (by simp [maxLen]) _ rfl)
      have k1 := k0 ()
      have hs1 : (str [48 + dv n j % 10]).size = 1 := by rw [str_size]; rfl
      have ha : str [48 + dv n j % 10] ++ str (digs n j) = str (digs n (j + 1)) := by rw [str_append, hc]; rfl
      have HAA := Lib.hid ha
      clear hc k0 ha
      go_wp2
      exact ⟨⟨j + 1, by omega, by rw [HN.out], by rw [HAA.out], by go_num, HB.out.alloc HB.out.size _⟩, by simp [intOf]; omega⟩
    · obtain rfl : j = s := by omega
      go_wp2
      go_ret
      exact ⟨rfl, HB.out⟩
theorem step27 {W w1 w3 : World} {g : Nat} {y m d : Int} (hb : Below w1.heap.size w1 w3) (h : Blk w1 g 27 #[.int .i64 y, .int .i64 m, .int .i64 d]) (k : Below g W w1) :
    Hid (Blk w3 g 27 #[.int .i64 y, .int .i64 m, .int .i64 d]) ∧ Hid (Below g W w3) ∧ (w3.cell? ⟨g, 0, none⟩ = some (.int .i64 y) ∧ w3.cell? ⟨g, 1, none⟩ = some (.int .i64 m) ∧ w3.cell? ⟨g, 2, none⟩ = some (.int .i64 d)) :=
  ⟨Lib.hid (h.keeps hb), Lib.hid (k.trans (hb.mono (Nat.le_of_lt h.lt))), (h.keeps hb).cell 0, (h.keeps hb).cell 1, (h.keeps hb).cell 2⟩
theorem reftext_no (y m d : Int) (w : World) (hg : gd y m d = false) :
    Calls Try.prog 16 #[date y m d] w fun e w' => e = .returned (.string ByteArray.empty) ∧ Below w.heap.size w w' := by
  have HA := Lib.hid ((Below.refl w.heap.size w).alloc (Nat.le_refl _) (.cells #[.int .i64 y, .int .i64 m, .int .i64 d] 27))
  have HG := Lib.hid (fun w => refgood_ok y m d w)
  rw [hg] at HG
  clear hg
  unfold date at HG ⊢
  go_enter Try.func16, Try.ntmps16
  go_wp2_with fail
  refine (HG.out _).mono ?_
  rintro e w2 ⟨rfl, hb⟩
  have HB := Lib.hid (HA.out.trans (hb.mono (by simp)))
  clear hb
  go_wp2
  go_ret
  exact ⟨rfl, HB.out⟩
set_option maxHeartbeats 1000000 in
theorem reftext_ok (y m d : Int) (w : World) (hg : gd y m d = true) :
    Calls Try.prog 16 #[date y m d] w fun e w' => e = .returned (.string (str (tx y m d))) ∧ Below w.heap.size w w' := by
  have HA := Lib.hid ((Below.refl w.heap.size w).alloc (Nat.le_refl _) (.cells #[.int .i64 y, .int .i64 m, .int .i64 d] 27))
  have HG := Lib.hid (fun w => refgood_ok y m d w)
  rw [hg] at HG
  have hgd := of_decide_eq_true hg
  obtain ⟨h0, h1, h2, h3, h4, h5⟩ := hgd
  have hmd := md_bd y m
  clear hg
  have D0 := Lib.hid (show ∀ w, Calls Try.prog 25 #[.int .i64 y, .int .i64 4] w fun e w' => e = .returned (.string (str (digs y 4))) ∧ Below w.heap.size w w' from fun w => two_ok y 4 w (by omega) (by omega) (by omega))
  have D1 := Lib.hid (show ∀ w, Calls Try.prog 25 #[.int .i64 m, .int .i64 2] w fun e w' => e = .returned (.string (str (digs m 2))) ∧ Below w.heap.size w w' from fun w => two_ok m 2 w (by omega) (by omega) (by omega))
  have D2 := Lib.hid (show ∀ w, Calls Try.prog 25 #[.int .i64 d, .int .i64 2] w fun e w' => e = .returned (.string (str (digs d 2))) ∧ Below w.heap.size w w' from fun w => two_ok d 2 w (by omega) (by omega) (by omega))
  unfold date at HG ⊢
  go_enter Try.func16, Try.ntmps16
  go_wp2_with fail
  refine (HG.out _).mono ?_
  rintro e w2 ⟨rfl, hb⟩
  have HB := Lib.hid (HA.out.trans (hb.mono (by simp)))
  have hbk : Blk w2 w.heap.size 27 #[.int .i64 y, .int .i64 m, .int .i64 d] := Blk.keeps (Blk.new _ _ _) hb
  have HBK := Lib.hid hbk
  have c0 : w2.cell? ⟨w.heap.size, 0, none⟩ = some (.int .i64 y) ∧ w2.cell? ⟨w.heap.size, 1, none⟩ = some (.int .i64 m) ∧ w2.cell? ⟨w.heap.size, 2, none⟩ = some (.int .i64 d) := ⟨hbk.cell 0, hbk.cell 1, hbk.cell 2⟩
  clear hb HA HG hbk
  generalize hgq : w.heap.size = g at *
  have s0 : (str (digs y 4)).size = 4 := by rw [str_size, digs_length]
  have s1 : (str (digs m 2)).size = 2 := by rw [str_size, digs_length]
  have s2 : (str (digs d 2)).size = 2 := by rw [str_size, digs_length]
  go_wp2
  go_region_held3 (fun w' => w'.cell? ⟨g, 0, none⟩ = some (.int .i64 y) ∧ w'.cell? ⟨g, 1, none⟩ = some (.int .i64 m) ∧ w'.cell? ⟨g, 2, none⟩ = some (.int .i64 d)) (first | assumption | go_keep) (first | (go_at_call 25; with_reducible refine Calls.mono (D0.out _) ?_; rintro e w3 ⟨rfl, hb⟩; obtain ⟨H3, K3, x3⟩ := step27 (W := w) (g := g) (y := y) (m := m) (d := d) hb (by first | exact HBK.out | exact Blk.drew HBK.out) (by first | exact HB.out | exact below_drew_ HB.out); clear hb) | (go_at_call 25; with_reducible refine Calls.mono (D1.out _) ?_; rintro e w4 ⟨rfl, hb⟩; obtain ⟨H4, K4, x4⟩ := step27 (W := w) (g := g) (y := y) (m := m) (d := d) hb (by first | exact H3.out | exact Blk.drew H3.out) (by first | exact K3.out | exact below_drew_ K3.out); clear hb) | (go_at_call 25; with_reducible refine Calls.mono (D2.out _) ?_; rintro e w5 ⟨rfl, hb⟩; obtain ⟨H5, K5, x5⟩ := step27 (W := w) (g := g) (y := y) (m := m) (d := d) hb (by first | exact H4.out | exact Blk.drew H4.out) (by first | exact K4.out | exact below_drew_ K4.out); clear hb))
  go_wp2
  go_ret
  refine ⟨?_, by rw [hgq]; exact K5.out⟩
  unfold tx
  rw [← str_append, ← str_append, ← str_append, ← str_append, str_dash]
  rfl

/-- What Of answers: no date, or a good one of just that number. -/
def Ofe (number : Int) (e : Ending) : Prop :=
  (¬ (-719162 ≤ number ∧ number ≤ 2932896) ∧ e = .returned (.tuple #[date 0 0 0, .bool false])) ∨ ((-719162 ≤ number ∧ number ≤ 2932896) ∧ ∃ y m d, e = .returned (.tuple #[date y m d, .bool true]) ∧ gd y m d = true ∧ nm y m d = number)
theorem ret18 (Q : Ending → World → Prop) (a : Act) (W : World) (b : Nat) (x y z : Int) (ok : Bool) (h2 : a.tmps.getD 2 undef = .pointer (some ⟨b, 0, none⟩)) (h3 : a.tmps.getD 3 undef = .bool ok) (hd : a.defers = [])
    (hb : Blk W b 24 #[.int .i64 x, .int .i64 y, .int .i64 z]) (hq : Q (.returned (.tuple #[date x y z, .bool ok])) W) : bodyPost Try.prog Try.f18 Q .ret a W := by
  have q0 : W.cell? ⟨b, 0, none⟩ = some (.int .i64 x) := hb.cell 0
  have q1 : W.cell? ⟨b, 1, none⟩ = some (.int .i64 y) := hb.cell 1
  have q2 : W.cell? ⟨b, 2, none⟩ = some (.int .i64 z) := hb.cell 2
  obtain ⟨tmps, defers⟩ := a
  simp only at h2 h3 hd
  subst hd
  rw [Array.getD_eq_getD_getElem?] at h2 h3
  refine bodyPost_ret (v := .tuple #[date x y z, .bool ok]) ?_ rfl hq
  simp [results, Try.results18, go_sem, h2, h3, q0, q1, q2, date]
theorem yr_top {y : Int} (h : 10000 ≤ y) : 3652059 ≤ yr y := by
  have := yr_le (a := 10000) (b := y) (by omega) h
  have e : yr 10000 = 3652059 := by decide
  omega

theorem yr_start {n : Int} (h0 : 0 ≤ n) (h1 : n ≤ 3652058) : yr (n / 366 + 1) ≤ n := by unfold yr; omega
set_option maxHeartbeats 1000000 in
theorem of_ok (number : Int) (w : World) :
    Calls Try.prog 18 #[.int .i64 number] w fun e w' => Ofe number e ∧ Below w.heap.size w w' := by
  have HZ := Lib.hid (Blk.new w 24 zero3)
  have HB := Lib.hid ((Below.refl w.heap.size w).alloc (Nat.le_refl _) (.cells zero3 24))
  by_cases h0 : number < -719162
  · go_enter Try.func18, Try.ntmps18
    go_wp2
    exact ret18 _ _ _ w.heap.size 0 0 0 false rfl rfl rfl HZ.out ⟨.inl ⟨by omega, rfl⟩, HB.out⟩
  by_cases h1 : 2932896 < number
  · go_enter Try.func18, Try.ntmps18
    go_wp2
    exact ret18 _ _ _ w.heap.size 0 0 0 false rfl rfl rfl HZ.out ⟨.inl ⟨by omega, rfl⟩, HB.out⟩
  go_enter Try.func18, Try.ntmps18
  go_wp2
  obtain ⟨w1, hw1, hz1, hb1⟩ : ∃ w1, w.alloc (.cells #[.int .i64 0, .int .i64 0, .int .i64 0] 24) = w1 ∧ Blk w1 w.heap.size 24 zero3 ∧ Below w.heap.size w w1 := ⟨_, rfl, HZ.out, HB.out⟩
  rw [hw1]
  have HZ1 := Lib.hid hz1
  have HB1 := Lib.hid hb1
  clear hw1 hz1 hb1 HZ HB
  generalize hn : number + 719162 = n
  have hn0 : 0 ≤ n := by omega
  have hn1 : n ≤ 3652058 := by omega
  have HN := Lib.hid hn
  clear hn
  go_loopw [5] (fun q wr => ∃ y : Int, 1 ≤ y ∧ y ≤ 9999 ∧ q = .int .i64 y ∧ yr y ≤ n ∧ wr = w1) (fun q _ => (10000 - intOf q).toNat)
  case atStart => exact ⟨n / 366 + 1, by omega, by omega, rfl, yr_start hn0 hn1, rfl⟩
  case round =>
    obtain ⟨y, hy, hy9, rfl, hyn, rfl⟩ := hrel
    have HY := Lib.hid (fun w => years_ok (y + 1) w (by omega) (by omega))
    have hb := yr_bd y hy (by omega)
    have hb2 := yr_bd (y + 1) (by omega) (by omega)
    by_cases hlt : yr (y + 1) ≤ n
    · have hy10 : y + 1 ≤ 9999 := by
        rcases Int.lt_or_le (y + 1) 10000 with h | h
        · omega
        · have := yr_top h
          omega
      have HLT := Lib.hid hlt
      generalize yr (y + 1) = v at HY hb2 hlt
      go_wp2_with (go_at_call 23; with_reducible refine Calls.mono (HY.out _) ?_; rintro e w' ⟨rfl, rfl⟩)
      go_roundw
      case rel => exact ⟨y + 1, by omega, hy10, rfl, HLT.out, by first | rfl | trivial⟩
      case measure => simp [intOf]; omega
    · have HYY := Lib.hid (fun w => years_ok y w (by omega) (by omega))
      have hs := yr_succ y hy
      rw [← bf13] at hs
      have HS := Lib.hid (show n - yr y < bf y 13 by omega)
      clear hs
      generalize yr (y + 1) = v at HY hb2 hlt
      generalize hv : yr y = u at HYY hb HS hyn
      have HV := Lib.hid hv
      clear hv
      go_wp2_with (first | (go_at_call 23; with_reducible refine Calls.mono (HY.out _) ?_; rintro e w' ⟨rfl, rfl⟩) | (go_at_call 23; with_reducible refine Calls.mono (HYY.out _) ?_; rintro e w' ⟨rfl, rfl⟩))
      go_loopw [4, 6] (fun a q wr' => ∃ (j : Nat) (r : Int), 1 ≤ j ∧ j ≤ 12 ∧ a = .int .i64 r ∧ q = .int .i64 j ∧ 0 ≤ r ∧ bf y j + r = n - u ∧ wr' = wr) (fun _ q _ => (13 - intOf q).toNat)
      case atStart => exact ⟨1, n - u, by omega, by omega, rfl, rfl, by omega, by simp [bf], rfl⟩
      case round =>
        obtain ⟨j, r, hj, hj12, rfl, rfl, hr, hbr, rfl⟩ := hrel
        have HM := Lib.hid (fun w => month_ok y j w hy (by omega) (by omega) (by omega))
        have hmd := md_bd y j
        have hbb := bf_bd y j
        have hbs := bf_succ y j hj
        by_cases hge : md y j ≤ r
        · have hj11 : j + 1 ≤ 12 := by
            rcases Nat.lt_or_ge j 12 with h | h
            · omega
            · obtain rfl : j = 12 := by omega
              have := HS.out
              have hb13 : bf y (12 + 1) = bf y 13 := rfl
              omega
          have HBS := Lib.hid (show bf y (j + 1) + (r - md y j) = n - u by omega)
          generalize md y j = M at HM hmd hge HBS hbs
          go_wp2_with (go_at_call 24; with_reducible refine Calls.mono (HM.out _) ?_; rintro e w' ⟨rfl, rfl⟩)
          go_roundw
          case rel => exact ⟨j + 1, r - M, by omega, hj11, rfl, by go_num, by omega, HBS.out, by first | rfl | trivial⟩
          case measure => simp [intOf]; omega
        · have hgood : gd y j (r + 1) = true := decide_eq_true (by omega)
          have hnum : nm y j (r + 1) = number := by
            unfold nm
            rw [Int.toNat_natCast]
            have := HV.out
            have := HN.out
            omega
          have HGD := Lib.hid hgood
          have HNM := Lib.hid hnum
          clear hgood hnum
          generalize md y j = M at HM hmd hge hbs
          have r0 : World.cell? _ ⟨w.heap.size, 0, none⟩ = some (Value.int .i64 0) := HZ1.out.cell 0
          have r1 : World.cell? _ ⟨w.heap.size, 1, none⟩ = some (Value.int .i64 0) := HZ1.out.cell 1
          have r2 : World.cell? _ ⟨w.heap.size, 2, none⟩ = some (Value.int .i64 0) := HZ1.out.cell 2
          have g0 := HZ1.out.frozen 0
          have g1 := HZ1.out.frozen 1
          have g2 := HZ1.out.frozen 2
          go_wp2_with (go_at_call 24; with_reducible refine Calls.mono (HM.out _) ?_; rintro e w' ⟨rfl, rfl⟩)
          refine ret18 _ _ _ w.heap.size y j (r + 1) true rfl rfl rfl (((HZ1.out.set_ 0 (.int .i64 y)).set_ 1 (.int .i64 j)).set_ 2 (.int .i64 (r + 1))) ⟨.inr ⟨by have := HN.out; omega, y, j, r + 1, rfl, HGD.out, HNM.out⟩, ?_⟩
          exact ((HB1.out.setCell (p := ⟨w.heap.size, 0, none⟩) (Nat.le_refl _) _).setCell (p := ⟨w.heap.size, 1, none⟩) (Nat.le_refl _) _).setCell (p := ⟨w.heap.size, 2, none⟩) (Nat.le_refl _) _
end Go.Proofs.Ytobhjkephinhiac.Civil
