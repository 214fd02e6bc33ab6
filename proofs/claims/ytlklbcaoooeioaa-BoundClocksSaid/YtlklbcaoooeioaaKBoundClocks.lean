/- Two clocks, as many steps on both, go apart by no more than Lag of the rounds that went by. No condition. -/
import Derived.Test.YtlklbcaoooeioaaQBoundClocksx2
import Derived.Test.YtlklbcaoooeioaaLf
namespace Go.Proofs.Ytlklbcaoooeioaa.BoundClocksW
open Go.RowKit Go.Proofs.Ytlklbcaoooeioaa.QBoundClocks Go.Proofs.YtlklbcaoooeioaaW.PrintWords Go.Proofs.YtlklbcaoooeioaaW.PrintLast Go.Proofs.YtlklbcaoooeioaaW.PrintMore
theorem w64 {x : Int} (h0 : -9223372036854775808 ≤ x) (h1 : x ≤ 9223372036854775807) : wrap64 x = x := by unfold wrap64; omega
theorem mb {a b A B : Int} (h0 : 0 ≤ a) (h1 : a ≤ A) (h2 : 0 ≤ b) (h3 : b ≤ B) : 0 ≤ a * b ∧ a * b ≤ A * B := ⟨Int.mul_nonneg h0 h2, Int.mul_le_mul h1 h3 h2 (by omega)⟩

def good (d j o r : Int) : Bool := decide (0 ≤ d ∧ d ≤ 10 ∧ 0 ≤ j ∧ j ≤ 20 ∧ 1 ≤ o ∧ o ≤ 1000 ∧ 1 ≤ r ∧ r ≤ 64)
theorem good_true {d j o r : Int} (h : good d j o r = true) : 0 ≤ d ∧ d ≤ 10 ∧ 0 ≤ j ∧ j ≤ 20 ∧ 1 ≤ o ∧ o ≤ 1000 ∧ 1 ≤ r ∧ r ≤ 64 := of_decide_eq_true h
theorem good_is (d j o r : Int) : bound_Terms_Good.f d j o r = some (good d j o r) := by
  unfold bound_Terms_Good.f good
  repeat' split
  all_goals first
    | (congr 1; rw [decide_eq_decide]; omega)
    | (congr 1; symm; rw [decide_eq_false_iff_not]; omega)

def ticks (d j o r n : Int) : Int := if good d j o r = true ∧ 0 ≤ n ∧ n ≤ 1073741824 then n * r * (1000 + d) else 0
theorem ticks_bd (d j o r n : Int) : 0 ≤ ticks d j o r n ∧ ticks d j o r n ≤ 69406671503360 := by
  unfold ticks
  split
  · rename_i h
    have hg := good_true h.1
    have h1 := mb (a := n) (b := r) (A := 1073741824) (B := 64) (by omega) (by omega) (by omega) (by omega)
    have h2 := mb (a := n * r) (b := 1000 + d) (A := 1073741824 * 64) (B := 1010) h1.1 h1.2 (by omega) (by omega)
    omega
  · omega
theorem ticks_is (d j o r n : Int) : bound_Terms_Ticks.f d j o r n = some (ticks d j o r n) := by
  unfold bound_Terms_Ticks.f ticks
  rw [good_is]
  simp only [Option.bind_some]
  by_cases h : good d j o r = true
  · have hg := good_true h
    rw [if_pos h]
    by_cases h1 : n < 0
    · rw [if_pos h1, if_neg (by omega)]
    · rw [if_neg h1]
      by_cases h2 : n > 1073741824
      · rw [if_pos h2, if_neg (by omega)]
      · have h3 := mb (a := n) (b := r) (A := 1073741824) (B := 64) (by omega) (by omega) (by omega) (by omega)
        have h4 := mb (a := n * r) (b := 1000 + d) (A := 1073741824 * 64) (B := 1010) h3.1 h3.2 (by omega) (by omega)
        rw [if_neg h2, if_pos (show good d j o r = true ∧ 0 ≤ n ∧ n ≤ 1073741824 from ⟨h, by omega, by omega⟩), w64 (x := n * r) (by omega) (by omega), w64 (x := 1000 + d) (by omega) (by omega), w64 (by omega) (by omega)]
  · rw [if_neg h, if_neg (fun h2 => h h2.1)]

def lag (d j o r n : Int) : Int := if good d j o r = true then (2 * d * ticks d j o r n + (1000 - d) - 1) / (1000 - d) else 0
theorem div_bd {a b : Int} (h0 : 0 ≤ a) (h1 : 0 < b) : 0 ≤ a / b ∧ a / b ≤ a := ⟨Int.ediv_nonneg h0 (by omega), Int.ediv_le_self _ h0⟩
theorem prod_bd (d j o r n : Int) (h : good d j o r = true) : 0 ≤ 2 * d * ticks d j o r n ∧ 2 * d * ticks d j o r n ≤ 1388133430067200 := by
  have hg := good_true h
  have hb := ticks_bd d j o r n
  have := mb (a := 2 * d) (b := ticks d j o r n) (A := 20) (B := 69406671503360) (by omega) (by omega) hb.1 hb.2
  omega
theorem lag_bd (d j o r n : Int) : 0 ≤ lag d j o r n ∧ lag d j o r n ≤ 1388133430068200 := by
  unfold lag
  split
  · rename_i h
    have hg := good_true h
    have hp := prod_bd d j o r n h
    have := div_bd (a := 2 * d * ticks d j o r n + (1000 - d) - 1) (b := 1000 - d) (by omega) (by omega)
    omega
  · omega
theorem lag_is (d j o r n : Int) : bound_Terms_Lag.f d j o r n = some (lag d j o r n) := by
  unfold bound_Terms_Lag.f lag
  rw [good_is, ticks_is]
  simp only [Option.bind_some]
  by_cases h : good d j o r = true
  · have hg := good_true h
    have hp := prod_bd d j o r n h
    have hq := div_bd (a := 2 * d * ticks d j o r n + (1000 - d) - 1) (b := 1000 - d) (by omega) (by omega)
    rw [if_pos h, if_pos h, w64 (x := 1000 - d) (by omega) (by omega), if_neg (by omega), w64 (x := 2 * d) (by omega) (by omega), w64 (x := 2 * d * ticks d j o r n) (by omega) (by omega), w64 (x := 2 * d * ticks d j o r n + (1000 - d)) (by omega) (by omega), w64 (x := 2 * d * ticks d j o r n + (1000 - d) - 1) (by omega) (by omega), Int.tdiv_eq_ediv_of_nonneg (by omega), w64 (by omega) (by omega)]
  · rw [if_neg h, if_neg h]

/-- Small rounds, small lags. -/
theorem lag_small (d j o r n : Int) (hn : n ≤ 8008) : lag d j o r n ≤ 10352744000 := by
  unfold lag
  split
  · rename_i h
    have hg := good_true h
    have ht : 0 ≤ ticks d j o r n ∧ ticks d j o r n ≤ 517637120 := by
      unfold ticks
      split
      · have h1 := mb (a := n) (b := r) (A := 8008) (B := 64) (by omega) (by omega) (by omega) (by omega)
        have h2 := mb (a := n * r) (b := 1000 + d) (A := 8008 * 64) (B := 1010) h1.1 h1.2 (by omega) (by omega)
        omega
      · omega
    have hp := mb (a := 2 * d) (b := ticks d j o r n) (A := 20) (B := 517637120) (by omega) (by omega) ht.1 ht.2
    have := div_bd (a := 2 * d * ticks d j o r n + (1000 - d) - 1) (b := 1000 - d) (by omega) (by omega)
    omega
  · omega
def hop (d j o r : Int) : Int := if good d j o r = true then 2 * j + lag d j o r (o + 1) + 2 else 0
theorem hop_bd (d j o r : Int) : 0 ≤ hop d j o r ∧ hop d j o r ≤ 10352744042 := by
  unfold hop
  split
  · rename_i h
    have hg := good_true h
    have h1 := lag_bd d j o r (o + 1)
    have h2 := lag_small d j o r (o + 1) (by omega)
    omega
  · omega
theorem hop_is (d j o r : Int) : bound_Terms_Hop.f d j o r = some (hop d j o r) := by
  unfold bound_Terms_Hop.f hop
  rw [good_is]
  simp only [Option.bind_some]
  by_cases h : good d j o r = true
  · have hg := good_true h
    have h1 := lag_bd d j o r (o + 1)
    have h2 := lag_small d j o r (o + 1) (by omega)
    rw [if_pos h, if_pos h, w64 (x := o + 1) (by omega) (by omega), lag_is]
    simp only [Option.bind_some]
    rw [w64 (x := 2 * j) (by omega) (by omega), w64 (x := 2 * j + lag d j o r (o + 1)) (by omega) (by omega), w64 (by omega) (by omega)]
  · rw [if_neg h, if_neg h]
theorem alive_is : angeluslaw25_alive.f = some true := by
  unfold angeluslaw25_alive.f
  rw [ticks_is, lag_is, hop_is, good_is]
  decide +kernel
theorem ending (d j o r x y n : Int) (h : good d j o r = true) (hn0 : 0 ≤ n) (hn : n ≤ 300) (hx0 : 0 ≤ x) (hx : x ≤ n * (1000 + d)) (hy0 : 0 ≤ y) (hy : y ≤ n * 1010) (h1 : x - y ≤ 2 * d * n) (h2 : y - x ≤ 2 * d * n) :
    (if r = 0 then (none) else ((bound_Terms_Ticks.f d j o r (wrap64 (Int.tdiv (wrap64 ((wrap64 (n + r)) - 1)) r))).bind fun t124 => (if x ≤ t124 then ((bound_Terms_Lag.f d j o r (wrap64 (Int.tdiv (wrap64 ((wrap64 (n + r)) - 1)) r))).bind fun t125 => (if (wrap64 (x - y)) ≤ t125 then ((bound_Terms_Lag.f d j o r (wrap64 (Int.tdiv (wrap64 ((wrap64 (n + r)) - 1)) r))).bind fun t126 => (some (decide ((wrap64 (-(wrap64 (x - y)))) ≤ t126)))) else (some false))) else (some false)))) = some true := by
  have hg := good_true h
  have hxb := mb (a := n) (b := 1000 + d) (A := 300) (B := 1010) hn0 hn (by omega) (by omega)
  rw [if_neg (by omega), w64 (x := n + r) (by omega) (by omega), w64 (x := n + r - 1) (by omega) (by omega), Int.tdiv_eq_ediv_of_nonneg (by omega)]
  have hq := div_bd (a := n + r - 1) (b := r) (by omega) (by omega)
  have hqr : n ≤ (n + r - 1) / r * r := by
    have e1 := Int.emod_add_mul_ediv (n + r - 1) r
    have e2 := Int.emod_lt_of_pos (n + r - 1) (show 0 < r by omega)
    rw [Int.mul_comm] at e1
    omega
  rw [w64 (x := (n + r - 1) / r) (by omega) (by omega), ticks_is, lag_is]
  generalize (n + r - 1) / r = R at hq hqr
  have ht : ticks d j o r R = R * r * (1000 + d) := by unfold ticks; rw [if_pos ⟨h, by omega, by omega⟩]
  have ht2 : n * (1000 + d) ≤ R * r * (1000 + d) := Int.mul_le_mul_of_nonneg_right hqr (by omega)
  have hd0 := mb (a := 2 * d) (b := n) (A := 20) (B := 300) (by omega) (by omega) hn0 hn
  have hl : 2 * d * n ≤ lag d j o r R := by
    unfold lag
    rw [if_pos h, Int.le_ediv_iff_mul_le (by omega), ht]
    have e1 : 2 * d * n * (1000 - d) ≤ 2 * d * n * (1000 + d) := Int.mul_le_mul_of_nonneg_left (by omega) hd0.1
    have e2 : 2 * d * (n * (1000 + d)) ≤ 2 * d * (R * r * (1000 + d)) := Int.mul_le_mul_of_nonneg_left ht2 (by omega)
    rw [← Int.mul_assoc] at e2
    omega
  simp only [Option.bind_some]
  rw [if_pos (by omega), w64 (x := x - y) (by omega) (by omega), if_pos (by omega), w64 (by omega) (by omega), decide_eq_true (by omega)]

theorem loop (d j o r : Int) (h : good d j o r = true) (a b : List Int) (hl : a.length ≤ 300) (hb : a.length ≤ b.length) (m : Nat) : ∀ (k : Nat) (i x y : Int), 0 ≤ i → i ≤ (a.length : Int) → (a.length : Int) - i = m → m < k →
    0 ≤ x → x ≤ i * (1000 + d) → 0 ≤ y → y ≤ i * 1010 → x - y ≤ 2 * d * i → y - x ≤ 2 * d * i →
    angeluslaw25_BoundClocks.l0 k a b x y (a.length : Int) i d j o r = some true := by
  have hg := good_true h
  induction m with
  | zero =>
    intro k i x y h0 h1 hm hk hx0 hx hy0 hy hd1 hd2
    obtain ⟨k, rfl⟩ : ∃ m, k = m + 1 := ⟨k - 1, by omega⟩
    obtain rfl : i = (a.length : Int) := by omega
    simp only [angeluslaw25_BoundClocks.l0]
    rw [if_neg (by omega)]
    exact ending d j o r x y _ h h0 (by omega) hx0 hx hy0 hy hd1 hd2
  | succ m ih =>
    intro k i x y h0 h1 hm hk hx0 hx hy0 hy hd1 hd2
    obtain ⟨k, rfl⟩ : ∃ m, k = m + 1 := ⟨k - 1, by omega⟩
    simp only [angeluslaw25_BoundClocks.l0]
    rw [if_pos (by omega), if_pos h0, if_pos (by omega), w64 (x := 1000 - d) (by omega) (by omega), w64 (x := 1000 + d) (by omega) (by omega)]
    generalize rd a i = p
    by_cases c1 : p < 1000 - d
    · rw [if_pos c1]
    · rw [if_neg c1]
      by_cases c2 : p > 1000 + d
      · rw [if_pos c2]
      · rw [if_neg c2, if_pos (by omega)]
        generalize rd b i = q
        by_cases c3 : q < 1000 - d
        · rw [if_pos c3]
        · rw [if_neg c3]
          by_cases c4 : q > 1000 + d
          · rw [if_pos c4]
          · rw [if_neg c4]
            have hxb := mb (a := i) (b := 1000 + d) (A := 300) (B := 1010) h0 (by omega) (by omega) (by omega)
            rw [w64 (x := x + p) (by omega) (by omega), w64 (x := y + q) (by omega) (by omega), w64 (x := i + 1) (by omega) (by omega)]
            have e1 : (i + 1) * (1000 + d) = i * (1000 + d) + (1000 + d) := by rw [Int.add_mul, Int.one_mul]
            have e2 : 2 * d * (i + 1) = 2 * d * i + 2 * d := by rw [Int.mul_add, Int.mul_one]
            exact ih k (i + 1) (x + p) (y + q) (by omega) (by omega) (by omega) (by omega) (by omega) (by omega) (by omega) (by omega) (by omega) (by omega)

theorem pure (d j o r : Int) (a b : List Int) : ∃ k, angeluslaw25_BoundClocks.f k d j o r a b = some true := by
  refine ⟨400 + 1, ?_⟩
  unfold angeluslaw25_BoundClocks.f
  rw [alive_is, good_is]
  simp only [Option.bind_some, if_true]
  have out : angeluslaw25_BoundClocks.j0 (400 + 1) a b true d j o r = some true := rfl
  by_cases h : good d j o r = true
  · rw [if_pos h]
    by_cases h1 : (a.length : Int) > 300
    · rw [if_pos h1, out]
    · rw [if_neg h1]
      by_cases h2 : (b.length : Int) < (a.length : Int)
      · rw [decide_eq_true h2, out]
      · rw [decide_eq_false h2]
        simp only [angeluslaw25_BoundClocks.j0, Bool.false_eq_true, if_false]
        exact loop d j o r h a b (by omega) (by omega) a.length _ 0 0 0 (by omega) (by omega) (by omega) (by omega) (by omega) (by omega) (by omega) (by omega) (by omega) (by omega)
  · rw [if_neg h, out]

set_option linter.unusedVariables false in
theorem walk (a0_0 : Int) (a0_1 : Int) (a0_2 : Int) (a0_3 : Int) (a1 : Option Addr) (len1 cap1 : Nat) (z1 : List Int) (a2 : Option Addr) (len2 cap2 : Nat) (z2 : List Int) (W : World) (w0_0 : (Lit.int .i64 a0_0).wf = true) (w0_1 : (Lit.int .i64 a0_1).wf = true) (w0_2 : (Lit.int .i64 a0_2).wf = true) (w0_3 : (Lit.int .i64 a0_3).wf = true) (w1 : Lf.IsRow .i64 W a1 len1 cap1 z1) (y1 : len1 * 8 ≤ 140737488351232) (w2 : Lf.IsRow .i64 W a2 len2 cap2 z2) (y2 : len2 * 8 ≤ 140737488351232) :
    Calls Try.prog 3 #[.agg #[.int .i64 a0_0, .int .i64 a0_1, .int .i64 a0_2, .int .i64 a0_3], .slice a1 len1 cap1, .slice a2 len2 cap2] W fun e w' => e = .returned (.bool true) ∧ Below W.heap.size W w' := by
  obtain ⟨l1, rfl, hr1, hm1, hw1, hc1⟩ := ReadsInt.ofRowC w1
  obtain ⟨l2, rfl, hr2, hm2, hw2, hc2⟩ := ReadsInt.ofRowC w2
  obtain ⟨k, h⟩ := pure a0_0 a0_1 a0_2 a0_3 l1 l2
  exact angeluslaw25_BoundClocks.calls k a0_0 a0_1 a0_2 a0_3 _ _ l1 _ _ l2 true ⟨rfl⟩ W (Kd.C_of_reads (d := (0 : Int)) (h1 := fun _ => rfl) hr1) hc1 (Kd.C_of_reads (d := (0 : Int)) (h1 := fun _ => rfl) hr2) hc2 h
end Go.Proofs.Ytlklbcaoooeioaa.BoundClocksW
