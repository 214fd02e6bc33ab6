-- PRINTED BY print.sh 35421559b90ae4d0a3588c463048766b98c2df88dd9212a6774a882060cdf62d: not written by this session
import Derived.Test.YtobhjkephinhiaaPCrcIsx0
namespace Go.Proofs.Ytobhjkephinhiaa.PCrcIs
open Go.RowKit Go.Proofs.YtobhjkephinhiaaW.PrintWords Go.Proofs.YtobhjkephinhiaaW.PrintLast Go.Proofs.YtobhjkephinhiaaW.PrintMore
attribute [local go_sem] max2_int min2_int max_two min_two max_three min_three max_four min_four   -- for this text's walks alone
set_option linter.unusedVariables false
set_option linter.unusedSimpArgs false

/-! ### crc_step: function 15 -/
def crc_step.l0 : Nat → Int → Int → Option (Int)
  | 0, _, _ => none
  | k + 1, x0, x11 => if x11 < 8 then (if (Go.bits .and .u16 x0 32768) = 0 then (crc_step.l0 k (IntKind.u16.wrap (x0 * 2)) (wrap64 (x11 + 1))) else (crc_step.l0 k (Go.bits .xor .u16 (IntKind.u16.wrap (x0 * 2)) 4129) (wrap64 (x11 + 1)))) else (some x0)
def crc_step.f (k : Nat) (a0 : Int) (a1 : Int) : Option (Int) := crc_step.l0 k (Go.bits .xor .u16 a0 (IntKind.u16.wrap ((IntKind.u16.wrap (a1)) * 256))) 0
theorem crc_step.mono_l : ∀ k, (∀ y0 y1, LeO (crc_step.l0 k y0 y1) (crc_step.l0 (k + 1) y0 y1))
  | 0 => fun _ _ r h => by simp [crc_step.l0] at h
  | k + 1 => by
    have ih0 := crc_step.mono_l k
    · intro y0 y1
      unfold crc_step.l0
      repeat' first
      | (with_reducible exact ih0 _ _)
      | (with_reducible exact LeO.refl _)
      | (with_reducible exact LeO.none _)
      | (with_reducible refine LeO.ite ?_ ?_)
      | (with_reducible refine LeO.bind ?_ (fun _ => ?_))
      | exact ih0 _ _
      | exact LeO.none _
      | refine LeO.ite ?_ ?_
      | refine LeO.bind ?_ (fun _ => ?_)
theorem crc_step.mono : ∀ a0 a1 k, LeO (crc_step.f k a0 a1) (crc_step.f (k + 1) a0 a1) := by
  intro a0 a1 k
  have ih0 := crc_step.mono_l k
  unfold crc_step.f
  repeat' first
      | (with_reducible exact ih0 _ _)
      | (with_reducible exact LeO.refl _)
      | (with_reducible exact LeO.none _)
      | (with_reducible refine LeO.ite ?_ ?_)
      | (with_reducible refine LeO.bind ?_ (fun _ => ?_))
      | exact ih0 _ _
      | exact LeO.none _
      | refine LeO.ite ?_ ?_
      | refine LeO.bind ?_ (fun _ => ?_)
set_option maxHeartbeats 8000000 in
set_option maxRecDepth 100000 in
theorem crc_step.calls (k : Nat) (a0 : Int) (a1 : Int) (r : Int) (w : World) (h : crc_step.f k a0 a1 = some r) :
    Calls Try.prog 15 #[.int .u16 a0, .int .u8 a1] w fun e w' => e = .returned (.int .u16 r) ∧ Drawn0 w w' := by
  have H : (crc_step.l0 k (Go.bits .xor .u16 a0 (IntKind.u16.wrap ((IntKind.u16.wrap (a1)) * 256))) 0) = some r := h
  clear h
  have H' := Aside0.mk H
  clear H
  go_enter Try.func15, Try.ntmps15
  go_wp2
  go_loopg [0, 11] k (fun kq v0 v11 w' => ∃ (x0_1 : Int) (x11_1 : Int), v0 = .int .u16 x0_1 ∧ v11 = .int .i64 x11_1 ∧ Aside0 (crc_step.l0 kq x0_1 x11_1 = some r) ∧ Aside0 (kq ≤ k) ∧ Drawn0 w w')
  case atStart => exact ⟨(Go.bits .xor .u16 a0 (IntKind.u16.wrap ((IntKind.u16.wrap (a1)) * 256))), (0), (by first | rfl | (simp; done) | (simp [*]; done)), (by first | rfl | (simp; done) | (simp [*]; done)), H', ⟨Nat.le_refl _⟩, by repeat (first | exact Drawn0.refl _ | apply Drawn0.step)⟩
  case round =>
    clear H'
    try clear c1
    try clear p2
    obtain ⟨x0_1, x11_1, rfl, rfl, HA, HK1, ⟨m1, rfl⟩⟩ := hrel
    cases gk with
    | zero => exact absurd HA.out (by simp [crc_step.l0])
    | succ k1 =>
      have H := HA.out
      clear HA
      simp only [crc_step.l0] at H
      by_cases c3 : x11_1 < 8
      · rw [if_pos c3] at H
        have c3b0 : decide (x11_1 < 8) = true := decide_eq_true c3
        clear c3
        by_cases c4 : (Go.bits .and .u16 x0_1 32768) = 0
        · rw [if_pos c4] at H
          have c4b0 : ((Go.bits .and .u16 x0_1 32768) == 0) = true := beq_iff_eq.mpr c4
          have c4b1 : ((Go.bits .and .u16 x0_1 32768) != 0) = false := bne_eq_false_iff_eq.mpr c4
          clear c4
          have H' := Aside0.mk H
          clear H
          go_wp2
          go_roundg k1
          case measure => have := HK1.out; omega
          case rel => exact ⟨(IntKind.u16.wrap (x0_1 * 2)), (wrap64 (x11_1 + 1)), (by first | rfl | (simp; done) | (simp [*]; done)), (by first | rfl | (simp; done) | (simp [*]; done)), H', ⟨by have := HK1.out; omega⟩, by repeat (first | exact Drawn0.refl _ | apply Drawn0.step)⟩
        · rw [if_neg c4] at H
          have c4b0 : ((Go.bits .and .u16 x0_1 32768) == 0) = false := beq_eq_false_iff_ne.mpr c4
          have c4b1 : ((Go.bits .and .u16 x0_1 32768) != 0) = true := bne_iff_ne.mpr c4
          have H' := Aside0.mk H
          clear H
          go_wp2
          go_roundg k1
          case measure => have := HK1.out; omega
          case rel => exact ⟨(Go.bits .xor .u16 (IntKind.u16.wrap (x0_1 * 2)) 4129), (wrap64 (x11_1 + 1)), (by first | rfl | (simp; done) | (simp [*]; done)), (by first | rfl | (simp; done) | (simp [*]; done)), H', ⟨by have := HK1.out; omega⟩, by repeat (first | exact Drawn0.refl _ | apply Drawn0.step)⟩
      · rw [if_neg c3] at H
        have c3b0 : decide (x11_1 < 8) = false := decide_eq_false c3
        clear c3
        obtain rfl := Option.some.inj H
        go_wp2
        go_ret
        exact ⟨by first | rfl | (simp; done) | (simp [*]; done), by repeat (first | exact Drawn0.refl _ | apply Drawn0.step)⟩

/-! ### crc_Goes: function 11 -/
def crc_Goes.l0 : Nat → Int → List Int → Int → Int → Option (Int)
  | 0, _, _, _, _ => none
  | k + 1, x0, x7, x8, x9 => if x9 < x8 then (if 0 ≤ x9 then (if x9 < (x7.length : Int) then ((crc_step.f k x0 (rd x7 x9)).bind fun t102 => (crc_Goes.l0 k t102 x7 x8 (wrap64 (x9 + 1)))) else (none)) else (none)) else (some x0)
def crc_Goes.f (k : Nat) (a0 : Int) (l1 : List Int) : Option (Int) := crc_Goes.l0 k a0 l1 (l1.length : Int) 0
theorem crc_Goes.mono_l : ∀ k, (∀ y0 y1 y2 y3, LeO (crc_Goes.l0 k y0 y1 y2 y3) (crc_Goes.l0 (k + 1) y0 y1 y2 y3))
  | 0 => fun _ _ _ _ r h => by simp [crc_Goes.l0] at h
  | k + 1 => by
    have ih0 := crc_Goes.mono_l k
    · intro y0 y1 y2 y3
      unfold crc_Goes.l0
      repeat' first
      | (with_reducible exact ih0 _ _ _ _)
      | (with_reducible exact crc_step.mono _ _ _)
      | (with_reducible exact LeO.refl _)
      | (with_reducible exact LeO.none _)
      | (with_reducible refine LeO.ite ?_ ?_)
      | (with_reducible refine LeO.bind ?_ (fun _ => ?_))
      | exact ih0 _ _ _ _
      | exact crc_step.mono _ _ _
      | exact LeO.none _
      | refine LeO.ite ?_ ?_
      | refine LeO.bind ?_ (fun _ => ?_)
theorem crc_Goes.mono : ∀ a0 a1 k, LeO (crc_Goes.f k a0 a1) (crc_Goes.f (k + 1) a0 a1) := by
  intro a0 a1 k
  have ih0 := crc_Goes.mono_l k
  unfold crc_Goes.f
  repeat' first
      | (with_reducible exact ih0 _ _ _ _)
      | (with_reducible exact crc_step.mono _ _ _)
      | (with_reducible exact LeO.refl _)
      | (with_reducible exact LeO.none _)
      | (with_reducible refine LeO.ite ?_ ?_)
      | (with_reducible refine LeO.bind ?_ (fun _ => ?_))
      | exact ih0 _ _ _ _
      | exact crc_step.mono _ _ _
      | exact LeO.none _
      | refine LeO.ite ?_ ?_
      | refine LeO.bind ?_ (fun _ => ?_)
set_option maxHeartbeats 8000000 in
set_option maxRecDepth 100000 in
theorem crc_Goes.calls (k : Nat) (a0 : Int) (A1 : Option Addr) (c1 : Nat) (l1 : List Int) (r : Int) (w : World) (hr1 : Kd.C (Kd.int .u8) w A1 l1.length l1) (hc1 : l1.length ≤ c1) (h : crc_Goes.f k a0 l1 = some r) :
    Calls Try.prog 11 #[.int .u16 a0, .slice A1 l1.length c1] w fun e w' => e = .returned (.int .u16 r) ∧ Drawn0 w w' := by
  have HR1 := Aside0.mk hr1
  have HC1 := Aside0.mk hc1
  clear hr1 hc1
  have H : (crc_Goes.l0 k a0 l1 (l1.length : Int) 0) = some r := h
  clear h
  have H' := Aside0.mk H
  clear H
  go_enter Try.func11, Try.ntmps11
  go_wp2
  go_loopg [0, 9] k (fun kq v0 v9 w' => ∃ (x0_1 : Int) (x9_1 : Int), v0 = .int .u16 x0_1 ∧ v9 = .int .i64 x9_1 ∧ Aside0 (crc_Goes.l0 kq x0_1 l1 (l1.length : Int) x9_1 = some r) ∧ Aside0 (kq ≤ k) ∧ Drawn0 w w')
  case atStart => exact ⟨(a0), (0), (by first | rfl | (simp; done) | (simp [*]; done)), (by first | rfl | (simp; done) | (simp [*]; done)), H', ⟨Nat.le_refl _⟩, by repeat (first | exact Drawn0.refl _ | apply Drawn0.step)⟩
  case round =>
    clear H'
    try clear c1
    try clear p2
    obtain ⟨x0_1, x9_1, rfl, rfl, HA, HK1, ⟨m1, rfl⟩⟩ := hrel
    cases gk with
    | zero => exact absurd HA.out (by simp [crc_Goes.l0])
    | succ k1 =>
      have H := HA.out
      clear HA
      simp only [crc_Goes.l0] at H
      by_cases c3 : x9_1 < (l1.length : Int)
      · rw [if_pos c3] at H
        have c3b0 : decide (x9_1 < (l1.length : Int)) = true := decide_eq_true c3
        clear c3
        by_cases c4 : 0 ≤ x9_1
        · rw [if_pos c4] at H
          have c4b0 : decide (0 ≤ x9_1) = true := decide_eq_true c4
          clear c4
          by_cases c5 : x9_1 < (l1.length : Int)
          · rw [if_pos c5] at H
            have c5b0 : decide (x9_1 < (l1.length : Int)) = true := decide_eq_true c5
            clear c5
            replace H := Option.bind_eq_some_iff.mp H
            obtain ⟨t102, A60, H⟩ := H
            replace H : (crc_Goes.l0 k1 t102 l1 (l1.length : Int) (wrap64 (x9_1 + 1))) = some r := H
            have A6 := Aside0.mk A60
            clear A60
            have H' := Aside0.mk H
            clear H
            have p101 : 0 ≤ (x9_1 : Int) := of_decide_eq_true (by first | (with_reducible assumption) | assumption)
            have q101 : x9_1 < (l1.length : Int) := of_decide_eq_true (by first | (with_reducible assumption) | assumption)
            obtain ⟨ad101, e101, hx101_0⟩ := Kd.at_int HR1.out x9_1 p101 q101
            cases e101
            replace p101 := eq_true p101
            replace q101 := eq_true q101
            go_wp2_with (first | ((with_reducible refine gate_callee (f := 15) rfl ?_); refine goesL_ (some 15) rfl rfl Try.func15 (by kernel_rfl) rfl #[.int .u16 x0_1, .int .u8 (rd l1 x9_1)] rfl (by (try simp only [List.map_toArray, List.map_cons, List.map_nil]); first | done | rfl | (simp only [List.length_drop, List.length_take]; rfl)) ?_; (with_reducible refine (crc_step.calls k1 x0_1 (rd l1 x9_1) t102 _ A6.out).mono ?_); rintro e w' ⟨rfl, ⟨nd, rfl⟩⟩; refine ⟨_, rfl, ?_⟩))
            go_roundg k1
            case measure => have := HK1.out; omega
            case rel => exact ⟨(t102), (wrap64 (x9_1 + 1)), (by first | rfl | (simp; done) | (simp [*]; done)), (by first | rfl | (simp; done) | (simp [*]; done)), H', ⟨by have := HK1.out; omega⟩, by repeat (first | exact Drawn0.refl _ | apply Drawn0.step)⟩
          · rw [if_neg c5] at H
            exact absurd H (by simp)
        · rw [if_neg c4] at H
          exact absurd H (by simp)
      · rw [if_neg c3] at H
        have c3b0 : decide (x9_1 < (l1.length : Int)) = false := decide_eq_false c3
        clear c3
        obtain rfl := Option.some.inj H
        go_wp2
        go_ret
        exact ⟨by first | rfl | (simp; done) | (simp [*]; done), by repeat (first | exact Drawn0.refl _ | apply Drawn0.step)⟩

/-! ### crc_Sum: function 9 -/
def crc_Sum.f (k : Nat) (l0 : List Int) : Option (Int) := (crc_Goes.f k 65535 l0).bind fun t103 => (some t103)
theorem crc_Sum.mono : ∀ a0 k, LeO (crc_Sum.f k a0) (crc_Sum.f (k + 1) a0) := by
  intro a0 k
  unfold crc_Sum.f
  repeat' first
      | (with_reducible exact crc_Goes.mono _ _ _)
      | (with_reducible exact LeO.refl _)
      | (with_reducible exact LeO.none _)
      | (with_reducible refine LeO.ite ?_ ?_)
      | (with_reducible refine LeO.bind ?_ (fun _ => ?_))
      | exact crc_Goes.mono _ _ _
      | exact LeO.none _
      | refine LeO.ite ?_ ?_
      | refine LeO.bind ?_ (fun _ => ?_)
set_option maxHeartbeats 8000000 in
set_option maxRecDepth 100000 in
theorem crc_Sum.calls (k : Nat) (A0 : Option Addr) (c0 : Nat) (l0 : List Int) (r : Int) (w : World) (hr0 : Kd.C (Kd.int .u8) w A0 l0.length l0) (hc0 : l0.length ≤ c0) (h : crc_Sum.f k l0 = some r) :
    Calls Try.prog 9 #[.slice A0 l0.length c0] w fun e w' => e = .returned (.int .u16 r) ∧ Drawn0 w w' := by
  have HR0 := Aside0.mk hr0
  have HC0 := Aside0.mk hc0
  clear hr0 hc0
  have H : ((crc_Goes.f k 65535 l0).bind fun t103 => (some t103)) = some r := h
  clear h
  replace H := Option.bind_eq_some_iff.mp H
  obtain ⟨t103, A20, H⟩ := H
  replace H : (some t103) = some r := H
  have A2 := Aside0.mk A20
  clear A20
  obtain rfl := Option.some.inj H
  go_enter Try.func9, Try.ntmps9
  go_wp2_with (first | ((with_reducible refine gate_callee (f := 11) rfl ?_); refine goesL_ (some 4) rfl rfl Try.func11 (by kernel_rfl) rfl #[.int .u16 65535, .slice A0 l0.length c0] rfl (by (try simp only [List.map_toArray, List.map_cons, List.map_nil]); first | done | rfl | (simp only [List.length_drop, List.length_take]; rfl)) ?_; (with_reducible refine (crc_Goes.calls k 65535 _ _ l0 t103 _ ?side1 ?side2 A2.out).mono ?_); (case side1 => repeat (first | exact HR0.out | (with_reducible refine Kd.C_alloc ?_ _) | (with_reducible refine Kd.C_drewN ?_ _) | (with_reducible refine Kd.C_drew ?_))); (case side2 => exact HC0.out); rintro e w' ⟨rfl, ⟨nd, rfl⟩⟩; refine ⟨_, rfl, ?_⟩))
  go_ret
  exact ⟨by first | rfl | (simp; done) | (simp [*]; done), by repeat (first | exact Drawn0.refl _ | apply Drawn0.step)⟩

-- NOT PRINTED: function 13 (crc_Seal)

-- NOT PRINTED: function 14 (crc_Open)

-- NOT PRINTED: function 8 (angeluslaw03_alive)

/-! ### angelusref03_Goes: function 12 -/
mutual
def angelusref03_Goes.l0 : Nat → Int → List Int → Int → Int → Option (Int)
  | 0, _, _, _, _ => none
  | k + 1, x5, x13, x14, x15 => if x15 < x14 then (if 0 ≤ x15 then (if x15 < (x13.length : Int) then (angelusref03_Goes.l1 k x5 (rd x13 x15) 7 x13 x14 x15) else (none)) else (none)) else (some (IntKind.u16.wrap (x5)))
def angelusref03_Goes.l1 : Nat → Int → Int → Int → List Int → Int → Int → Option (Int)
  | 0, _, _, _, _, _, _ => none
  | k + 1, x5, x7, x8, x13, x14, x15 => if x8 ≥ 0 then (if 0 ≤ (IntKind.u64.wrap (x8)) then (if (wrap64 (Int.tdiv x5 32768)) = (Go.bits .and .i64 (shr .i64 (wrap64 (x7)) (IntKind.u64.wrap (x8))) 1) then (angelusref03_Goes.l1 k (Int.tmod (wrap64 (x5 * 2)) 65536) x7 (wrap64 (x8 - 1)) x13 x14 x15) else (angelusref03_Goes.l1 k (Go.bits .xor .i64 (Int.tmod (wrap64 (x5 * 2)) 65536) 4129) x7 (wrap64 (x8 - 1)) x13 x14 x15)) else (none)) else (angelusref03_Goes.l0 k x5 x13 x14 (wrap64 (x15 + 1)))
end
def angelusref03_Goes.f (k : Nat) (a0 : Int) (l1 : List Int) : Option (Int) := angelusref03_Goes.l0 k (wrap64 (a0)) l1 (l1.length : Int) 0
theorem angelusref03_Goes.mono_l : ∀ k, (∀ y0 y1 y2 y3, LeO (angelusref03_Goes.l0 k y0 y1 y2 y3) (angelusref03_Goes.l0 (k + 1) y0 y1 y2 y3)) ∧ (∀ y0 y1 y2 y3 y4 y5, LeO (angelusref03_Goes.l1 k y0 y1 y2 y3 y4 y5) (angelusref03_Goes.l1 (k + 1) y0 y1 y2 y3 y4 y5))
  | 0 => ⟨fun _ _ _ _ r h => by simp [angelusref03_Goes.l0] at h, fun _ _ _ _ _ _ r h => by simp [angelusref03_Goes.l1] at h⟩
  | k + 1 => by
    obtain ⟨ih0, ih1⟩ := angelusref03_Goes.mono_l k
    refine ⟨?_, ?_⟩
    · intro y0 y1 y2 y3
      unfold angelusref03_Goes.l0
      repeat' first
      | (with_reducible exact ih0 _ _ _ _)
      | (with_reducible exact ih1 _ _ _ _ _ _)
      | (with_reducible exact LeO.refl _)
      | (with_reducible exact LeO.none _)
      | (with_reducible refine LeO.ite ?_ ?_)
      | (with_reducible refine LeO.bind ?_ (fun _ => ?_))
      | exact ih0 _ _ _ _
      | exact ih1 _ _ _ _ _ _
      | exact LeO.none _
      | refine LeO.ite ?_ ?_
      | refine LeO.bind ?_ (fun _ => ?_)
    · intro y0 y1 y2 y3 y4 y5
      unfold angelusref03_Goes.l1
      repeat' first
      | (with_reducible exact ih0 _ _ _ _)
      | (with_reducible exact ih1 _ _ _ _ _ _)
      | (with_reducible exact LeO.refl _)
      | (with_reducible exact LeO.none _)
      | (with_reducible refine LeO.ite ?_ ?_)
      | (with_reducible refine LeO.bind ?_ (fun _ => ?_))
      | exact ih0 _ _ _ _
      | exact ih1 _ _ _ _ _ _
      | exact LeO.none _
      | refine LeO.ite ?_ ?_
      | refine LeO.bind ?_ (fun _ => ?_)
theorem angelusref03_Goes.mono : ∀ a0 a1 k, LeO (angelusref03_Goes.f k a0 a1) (angelusref03_Goes.f (k + 1) a0 a1) := by
  intro a0 a1 k
  obtain ⟨ih0, ih1⟩ := angelusref03_Goes.mono_l k
  unfold angelusref03_Goes.f
  repeat' first
      | (with_reducible exact ih0 _ _ _ _)
      | (with_reducible exact ih1 _ _ _ _ _ _)
      | (with_reducible exact LeO.refl _)
      | (with_reducible exact LeO.none _)
      | (with_reducible refine LeO.ite ?_ ?_)
      | (with_reducible refine LeO.bind ?_ (fun _ => ?_))
      | exact ih0 _ _ _ _
      | exact ih1 _ _ _ _ _ _
      | exact LeO.none _
      | refine LeO.ite ?_ ?_
      | refine LeO.bind ?_ (fun _ => ?_)
set_option maxHeartbeats 8000000 in
set_option maxRecDepth 100000 in
theorem angelusref03_Goes.calls (k : Nat) (a0 : Int) (A1 : Option Addr) (c1 : Nat) (l1 : List Int) (r : Int) (w : World) (hr1 : Kd.C (Kd.int .u8) w A1 l1.length l1) (hc1 : l1.length ≤ c1) (h : angelusref03_Goes.f k a0 l1 = some r) :
    Calls Try.prog 12 #[.int .u16 a0, .slice A1 l1.length c1] w fun e w' => e = .returned (.int .u16 r) ∧ Drawn0 w w' := by
  have HR1 := Aside0.mk hr1
  have HC1 := Aside0.mk hc1
  clear hr1 hc1
  have H : (angelusref03_Goes.l0 k (wrap64 (a0)) l1 (l1.length : Int) 0) = some r := h
  clear h
  have H' := Aside0.mk H
  clear H
  go_enter Try.func12, Try.ntmps12
  go_wp2
  go_loopg [5, 15] k (fun kq v5 v15 w' => ∃ (x5_1 : Int) (x15_1 : Int), v5 = .int .i64 x5_1 ∧ v15 = .int .i64 x15_1 ∧ Aside0 (angelusref03_Goes.l0 kq x5_1 l1 (l1.length : Int) x15_1 = some r) ∧ Aside0 (kq ≤ k) ∧ Drawn0 w w')
  case atStart => exact ⟨(wrap64 (a0)), (0), (by first | rfl | (simp; done) | (simp [*]; done)), (by first | rfl | (simp; done) | (simp [*]; done)), H', ⟨Nat.le_refl _⟩, by repeat (first | exact Drawn0.refl _ | apply Drawn0.step)⟩
  case round =>
    clear H'
    try clear c1
    try clear p2
    obtain ⟨x5_1, x15_1, rfl, rfl, HA, HK1, ⟨m1, rfl⟩⟩ := hrel
    cases gk with
    | zero => exact absurd HA.out (by simp [angelusref03_Goes.l0])
    | succ k1 =>
      have H := HA.out
      clear HA
      simp only [angelusref03_Goes.l0] at H
      by_cases c3 : x15_1 < (l1.length : Int)
      · rw [if_pos c3] at H
        have c3b0 : decide (x15_1 < (l1.length : Int)) = true := decide_eq_true c3
        clear c3
        by_cases c4 : 0 ≤ x15_1
        · rw [if_pos c4] at H
          have c4b0 : decide (0 ≤ x15_1) = true := decide_eq_true c4
          clear c4
          by_cases c5 : x15_1 < (l1.length : Int)
          · rw [if_pos c5] at H
            have c5b0 : decide (x15_1 < (l1.length : Int)) = true := decide_eq_true c5
            clear c5
            have H' := Aside0.mk H
            clear H
            have p110 : 0 ≤ (x15_1 : Int) := of_decide_eq_true (by first | (with_reducible assumption) | assumption)
            have q110 : x15_1 < (l1.length : Int) := of_decide_eq_true (by first | (with_reducible assumption) | assumption)
            obtain ⟨ad110, e110, hx110_0⟩ := Kd.at_int HR1.out x15_1 p110 q110
            cases e110
            replace p110 := eq_true p110
            replace q110 := eq_true q110
            go_wp2
            go_loopg [5, 8] k1 (fun kq v5 v8 w' => ∃ (x5_2 : Int) (x8_2 : Int), v5 = .int .i64 x5_2 ∧ v8 = .int .i64 x8_2 ∧ Aside0 (angelusref03_Goes.l1 kq x5_2 (rd l1 x15_1) x8_2 l1 (l1.length : Int) x15_1 = some r) ∧ Aside0 (kq ≤ k1) ∧ Drawn0 w w')
            case atStart => exact ⟨(x5_1), (7), (by first | rfl | (simp; done) | (simp [*]; done)), (by first | rfl | (simp; done) | (simp [*]; done)), H', ⟨Nat.le_refl _⟩, by repeat (first | exact Drawn0.refl _ | apply Drawn0.step)⟩
            case round =>
              clear H'
              try clear c1
              try clear p1
              try clear q1
              try clear hx1
              try clear p2
              try clear c3
              try clear c3b0
              try clear c4
              try clear c4b0
              try clear c5
              try clear c5b0
              try clear hx110_0
              try clear p110
              try clear p2
              try clear q110
              obtain ⟨x5_2, x8_2, rfl, rfl, HA, HK2, ⟨m2, rfl⟩⟩ := hrel
              cases gk with
              | zero => exact absurd HA.out (by simp [angelusref03_Goes.l1])
              | succ k2 =>
                have H := HA.out
                clear HA
                simp only [angelusref03_Goes.l1] at H
                by_cases c6 : x8_2 ≥ 0
                · rw [if_pos c6] at H
                  have c6b0 : decide (0 ≤ x8_2) = true := decide_eq_true c6
                  clear c6
                  obtain ⟨ji7, hji7⟩ : ∃ j_ : Int, (IntKind.u64.wrap (x8_2)) = j_ := ⟨_, rfl⟩
                  replace H : (if 0 ≤ (ji7) then (if (wrap64 (Int.tdiv x5_2 32768)) = (Go.bits .and .i64 (shr .i64 (wrap64 ((rd l1 x15_1))) (ji7)) 1) then (angelusref03_Goes.l1 k2 (Int.tmod (wrap64 (x5_2 * 2)) 65536) (rd l1 x15_1) (wrap64 (x8_2 - 1)) l1 (l1.length : Int) x15_1) else (angelusref03_Goes.l1 k2 (Go.bits .xor .i64 (Int.tmod (wrap64 (x5_2 * 2)) 65536) 4129) (rd l1 x15_1) (wrap64 (x8_2 - 1)) l1 (l1.length : Int) x15_1)) else (none)) = some r := by first | (rw [hji7] at H; exact H) | (simp only [hji7] at H ⊢; exact H)
                  by_cases c8 : 0 ≤ (ji7)
                  · rw [if_pos c8] at H
                    have c8b0 := eq_true c8
                    have c8b1 : decide (0 ≤ (ji7)) = true := decide_eq_true c8
                    clear c8
                    obtain ⟨ji9, hji9⟩ : ∃ j_ : Int, (shr .i64 (wrap64 ((rd l1 x15_1))) (ji7)) = j_ := ⟨_, rfl⟩
                    replace H : (if (wrap64 (Int.tdiv x5_2 32768)) = (Go.bits .and .i64 (ji9) 1) then (angelusref03_Goes.l1 k2 (Int.tmod (wrap64 (x5_2 * 2)) 65536) (rd l1 x15_1) (wrap64 (x8_2 - 1)) l1 (l1.length : Int) x15_1) else (angelusref03_Goes.l1 k2 (Go.bits .xor .i64 (Int.tmod (wrap64 (x5_2 * 2)) 65536) 4129) (rd l1 x15_1) (wrap64 (x8_2 - 1)) l1 (l1.length : Int) x15_1)) = some r := by first | (rw [hji9] at H; exact H) | (simp only [hji9] at H ⊢; exact H)
                    have hji9_ : ((wrap64 ((rd l1 x15_1))) / 2 ^ min (ji7).toNat 64) = ji9 := hji9
                    have hji9z : (ji7) ≤ 64 → ((wrap64 ((rd l1 x15_1))) / 2 ^ (ji7).toNat) = ji9 := shr_small hji9
                    by_cases c10 : (wrap64 (Int.tdiv x5_2 32768)) = (Go.bits .and .i64 (ji9) 1)
                    · rw [if_pos c10] at H
                      have c10b0 : ((wrap64 (Int.tdiv x5_2 32768)) == (Go.bits .and .i64 (ji9) 1)) = true := beq_iff_eq.mpr c10
                      have c10b1 : ((wrap64 (Int.tdiv x5_2 32768)) != (Go.bits .and .i64 (ji9) 1)) = false := bne_eq_false_iff_eq.mpr c10
                      clear c10
                      have H' := Aside0.mk H
                      clear H
                      go_wp2
                      go_roundg k2
                      case measure => have := HK1.out; have := HK2.out; omega
                      case rel => exact ⟨(Int.tmod (wrap64 (x5_2 * 2)) 65536), (wrap64 (x8_2 - 1)), (by first | rfl | (simp; done) | (simp [*]; done)), (by first | rfl | (simp; done) | (simp [*]; done)), H', ⟨by have := HK1.out; have := HK2.out; omega⟩, by repeat (first | exact Drawn0.refl _ | apply Drawn0.step)⟩
                    · rw [if_neg c10] at H
                      have c10b0 : ((wrap64 (Int.tdiv x5_2 32768)) == (Go.bits .and .i64 (ji9) 1)) = false := beq_eq_false_iff_ne.mpr c10
                      have c10b1 : ((wrap64 (Int.tdiv x5_2 32768)) != (Go.bits .and .i64 (ji9) 1)) = true := bne_iff_ne.mpr c10
                      have H' := Aside0.mk H
                      clear H
                      go_wp2
                      go_roundg k2
                      case measure => have := HK1.out; have := HK2.out; omega
                      case rel => exact ⟨(Go.bits .xor .i64 (Int.tmod (wrap64 (x5_2 * 2)) 65536) 4129), (wrap64 (x8_2 - 1)), (by first | rfl | (simp; done) | (simp [*]; done)), (by first | rfl | (simp; done) | (simp [*]; done)), H', ⟨by have := HK1.out; have := HK2.out; omega⟩, by repeat (first | exact Drawn0.refl _ | apply Drawn0.step)⟩
                  · rw [if_neg c8] at H
                    exact absurd H (by simp)
                · rw [if_neg c6] at H
                  have c6b0 : decide (0 ≤ x8_2) = false := decide_eq_false c6
                  clear c6
                  have H' := Aside0.mk H
                  clear H
                  go_wp2
                  go_roundg k2
                  case measure => have := HK1.out; have := HK2.out; omega
                  case rel => exact ⟨(x5_2), (wrap64 (x15_1 + 1)), (by first | rfl | (simp; done) | (simp [*]; done)), (by first | rfl | (simp; done) | (simp [*]; done)), H', ⟨by have := HK1.out; have := HK2.out; omega⟩, by repeat (first | exact Drawn0.refl _ | apply Drawn0.step)⟩
          · rw [if_neg c5] at H
            exact absurd H (by simp)
        · rw [if_neg c4] at H
          exact absurd H (by simp)
      · rw [if_neg c3] at H
        have c3b0 : decide (x15_1 < (l1.length : Int)) = false := decide_eq_false c3
        clear c3
        obtain rfl := Option.some.inj H
        go_wp2
        go_ret
        exact ⟨by first | rfl | (simp; done) | (simp [*]; done), by repeat (first | exact Drawn0.refl _ | apply Drawn0.step)⟩

/-! ### angelusref03_Sum: function 10 -/
def angelusref03_Sum.f (k : Nat) (l0 : List Int) : Option (Int) := (angelusref03_Goes.f k 65535 l0).bind fun t111 => (some t111)
theorem angelusref03_Sum.mono : ∀ a0 k, LeO (angelusref03_Sum.f k a0) (angelusref03_Sum.f (k + 1) a0) := by
  intro a0 k
  unfold angelusref03_Sum.f
  repeat' first
      | (with_reducible exact angelusref03_Goes.mono _ _ _)
      | (with_reducible exact LeO.refl _)
      | (with_reducible exact LeO.none _)
      | (with_reducible refine LeO.ite ?_ ?_)
      | (with_reducible refine LeO.bind ?_ (fun _ => ?_))
      | exact angelusref03_Goes.mono _ _ _
      | exact LeO.none _
      | refine LeO.ite ?_ ?_
      | refine LeO.bind ?_ (fun _ => ?_)
set_option maxHeartbeats 8000000 in
set_option maxRecDepth 100000 in
theorem angelusref03_Sum.calls (k : Nat) (A0 : Option Addr) (c0 : Nat) (l0 : List Int) (r : Int) (w : World) (hr0 : Kd.C (Kd.int .u8) w A0 l0.length l0) (hc0 : l0.length ≤ c0) (h : angelusref03_Sum.f k l0 = some r) :
    Calls Try.prog 10 #[.slice A0 l0.length c0] w fun e w' => e = .returned (.int .u16 r) ∧ Drawn0 w w' := by
  have HR0 := Aside0.mk hr0
  have HC0 := Aside0.mk hc0
  clear hr0 hc0
  have H : ((angelusref03_Goes.f k 65535 l0).bind fun t111 => (some t111)) = some r := h
  clear h
  replace H := Option.bind_eq_some_iff.mp H
  obtain ⟨t111, A20, H⟩ := H
  replace H : (some t111) = some r := H
  have A2 := Aside0.mk A20
  clear A20
  obtain rfl := Option.some.inj H
  go_enter Try.func10, Try.ntmps10
  go_wp2_with (first | ((with_reducible refine gate_callee (f := 12) rfl ?_); refine goesL_ (some 4) rfl rfl Try.func12 (by kernel_rfl) rfl #[.int .u16 65535, .slice A0 l0.length c0] rfl (by (try simp only [List.map_toArray, List.map_cons, List.map_nil]); first | done | rfl | (simp only [List.length_drop, List.length_take]; rfl)) ?_; (with_reducible refine (angelusref03_Goes.calls k 65535 _ _ l0 t111 _ ?side1 ?side2 A2.out).mono ?_); (case side1 => repeat (first | exact HR0.out | (with_reducible refine Kd.C_alloc ?_ _) | (with_reducible refine Kd.C_drewN ?_ _) | (with_reducible refine Kd.C_drew ?_))); (case side2 => exact HC0.out); rintro e w' ⟨rfl, ⟨nd, rfl⟩⟩; refine ⟨_, rfl, ?_⟩))
  go_ret
  exact ⟨by first | rfl | (simp; done) | (simp [*]; done), by repeat (first | exact Drawn0.refl _ | apply Drawn0.step)⟩

-- NOT PRINTED: function 3 (angeluslaw03_CrcIs)

end Go.Proofs.Ytobhjkephinhiaa.PCrcIs
