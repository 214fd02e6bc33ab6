/- All bounds of terms are the document's formulas, of all terms and numbers. No condition. -/
import Derived.Test.YtlklbcaoooeioaaQBoundIsx5
import Derived.Test.YtlklbcaoooeioaaLf
namespace Go.Proofs.Ytlklbcaoooeioaa.BoundIsW
open Go.RowKit Go.Proofs.Ytlklbcaoooeioaa.QBoundIs Go.Proofs.YtlklbcaoooeioaaW.PrintWords Go.Proofs.YtlklbcaoooeioaaW.PrintLast Go.Proofs.YtlklbcaoooeioaaW.PrintMore
theorem w64 {x : Int} (h0 : -9223372036854775808 ≤ x) (h1 : x ≤ 9223372036854775807) : wrap64 x = x := by unfold wrap64; omega
theorem mb {a b A B : Int} (h0 : 0 ≤ a) (h1 : a ≤ A) (h2 : 0 ≤ b) (h3 : b ≤ B) : 0 ≤ a * b ∧ a * b ≤ A * B := ⟨Int.mul_nonneg h0 h2, Int.mul_le_mul h1 h3 h2 (by omega)⟩

def good (d j o r : Int) : Bool := decide (0 ≤ d ∧ d ≤ 10 ∧ 0 ≤ j ∧ j ≤ 20 ∧ 1 ≤ o ∧ o ≤ 1000 ∧ 1 ≤ r ∧ r ≤ 64)
theorem good_true {d j o r : Int} (h : good d j o r = true) : 0 ≤ d ∧ d ≤ 10 ∧ 0 ≤ j ∧ j ≤ 20 ∧ 1 ≤ o ∧ o ≤ 1000 ∧ 1 ≤ r ∧ r ≤ 64 := of_decide_eq_true h
theorem good_is (d j o r : Int) : bound_Terms_Good.f d j o r = some (good d j o r) := by
  unfold bound_Terms_Good.f good
  repeat' split
  all_goals first
    | (congr 1; rw [decide_eq_decide]; omega)
    | (congr 1; symm; rw [decide_eq_false_iff_not]; omega)

def ticks (d j o r n : Int) : Int := if good d j o r = true ∧ 0 ≤ n ∧ n ≤ 1073741824 then n * r * (1000 + d) else 0
theorem ticks_bd (d j o r n : Int) : 0 ≤ ticks d j o r n ∧ ticks d j o r n ≤ 69406671503360 := by
  unfold ticks
  split
  · rename_i h
    have hg := good_true h.1
    have h1 := mb (a := n) (b := r) (A := 1073741824) (B := 64) (by omega) (by omega) (by omega) (by omega)
    have h2 := mb (a := n * r) (b := 1000 + d) (A := 1073741824 * 64) (B := 1010) h1.1 h1.2 (by omega) (by omega)
    omega
  · omega
theorem ticks_is (d j o r n : Int) : bound_Terms_Ticks.f d j o r n = some (ticks d j o r n) := by
  unfold bound_Terms_Ticks.f ticks
  rw [good_is]
  simp only [Option.bind_some]
  by_cases h : good d j o r = true
  · have hg := good_true h
    rw [if_pos h]
    by_cases h1 : n < 0
    · rw [if_pos h1, if_neg (by omega)]
    · rw [if_neg h1]
      by_cases h2 : n > 1073741824
      · rw [if_pos h2, if_neg (by omega)]
      · have h3 := mb (a := n) (b := r) (A := 1073741824) (B := 64) (by omega) (by omega) (by omega) (by omega)
        have h4 := mb (a := n * r) (b := 1000 + d) (A := 1073741824 * 64) (B := 1010) h3.1 h3.2 (by omega) (by omega)
        rw [if_neg h2, if_pos (show good d j o r = true ∧ 0 ≤ n ∧ n ≤ 1073741824 from ⟨h, by omega, by omega⟩), w64 (x := n * r) (by omega) (by omega), w64 (x := 1000 + d) (by omega) (by omega), w64 (by omega) (by omega)]
  · rw [if_neg h, if_neg (fun h2 => h h2.1)]

def lag (d j o r n : Int) : Int := if good d j o r = true then (2 * d * ticks d j o r n + (1000 - d) - 1) / (1000 - d) else 0
theorem div_bd {a b : Int} (h0 : 0 ≤ a) (h1 : 0 < b) : 0 ≤ a / b ∧ a / b ≤ a := ⟨Int.ediv_nonneg h0 (by omega), Int.ediv_le_self _ h0⟩
theorem prod_bd (d j o r n : Int) (h : good d j o r = true) : 0 ≤ 2 * d * ticks d j o r n ∧ 2 * d * ticks d j o r n ≤ 1388133430067200 := by
  have hg := good_true h
  have hb := ticks_bd d j o r n
  have := mb (a := 2 * d) (b := ticks d j o r n) (A := 20) (B := 69406671503360) (by omega) (by omega) hb.1 hb.2
  omega
theorem lag_bd (d j o r n : Int) : 0 ≤ lag d j o r n ∧ lag d j o r n ≤ 1388133430068200 := by
  unfold lag
  split
  · rename_i h
    have hg := good_true h
    have hp := prod_bd d j o r n h
    have := div_bd (a := 2 * d * ticks d j o r n + (1000 - d) - 1) (b := 1000 - d) (by omega) (by omega)
    omega
  · omega
theorem lag_is (d j o r n : Int) : bound_Terms_Lag.f d j o r n = some (lag d j o r n) := by
  unfold bound_Terms_Lag.f lag
  rw [good_is, ticks_is]
  simp only [Option.bind_some]
  by_cases h : good d j o r = true
  · have hg := good_true h
    have hp := prod_bd d j o r n h
    have hq := div_bd (a := 2 * d * ticks d j o r n + (1000 - d) - 1) (b := 1000 - d) (by omega) (by omega)
    rw [if_pos h, if_pos h, w64 (x := 1000 - d) (by omega) (by omega), if_neg (by omega), w64 (x := 2 * d) (by omega) (by omega), w64 (x := 2 * d * ticks d j o r n) (by omega) (by omega), w64 (x := 2 * d * ticks d j o r n + (1000 - d)) (by omega) (by omega), w64 (x := 2 * d * ticks d j o r n + (1000 - d) - 1) (by omega) (by omega), Int.tdiv_eq_ediv_of_nonneg (by omega), w64 (by omega) (by omega)]
  · rw [if_neg h, if_neg h]

/-- Small rounds, small lags. -/
theorem lag_small (d j o r n : Int) (hn : n ≤ 8008) : lag d j o r n ≤ 10352744000 := by
  unfold lag
  split
  · rename_i h
    have hg := good_true h
    have ht : 0 ≤ ticks d j o r n ∧ ticks d j o r n ≤ 517637120 := by
      unfold ticks
      split
      · have h1 := mb (a := n) (b := r) (A := 8008) (B := 64) (by omega) (by omega) (by omega) (by omega)
        have h2 := mb (a := n * r) (b := 1000 + d) (A := 8008 * 64) (B := 1010) h1.1 h1.2 (by omega) (by omega)
        omega
      · omega
    have hp := mb (a := 2 * d) (b := ticks d j o r n) (A := 20) (B := 517637120) (by omega) (by omega) ht.1 ht.2
    have := div_bd (a := 2 * d * ticks d j o r n + (1000 - d) - 1) (b := 1000 - d) (by omega) (by omega)
    omega
  · omega
def hop (d j o r : Int) : Int := if good d j o r = true then 2 * j + lag d j o r (o + 1) + 2 else 0
theorem hop_bd (d j o r : Int) : 0 ≤ hop d j o r ∧ hop d j o r ≤ 10352744042 := by
  unfold hop
  split
  · rename_i h
    have hg := good_true h
    have h1 := lag_bd d j o r (o + 1)
    have h2 := lag_small d j o r (o + 1) (by omega)
    omega
  · omega
theorem hop_is (d j o r : Int) : bound_Terms_Hop.f d j o r = some (hop d j o r) := by
  unfold bound_Terms_Hop.f hop
  rw [good_is]
  simp only [Option.bind_some]
  by_cases h : good d j o r = true
  · have hg := good_true h
    have h1 := lag_bd d j o r (o + 1)
    have h2 := lag_small d j o r (o + 1) (by omega)
    rw [if_pos h, if_pos h, w64 (x := o + 1) (by omega) (by omega), lag_is]
    simp only [Option.bind_some]
    rw [w64 (x := 2 * j) (by omega) (by omega), w64 (x := 2 * j + lag d j o r (o + 1)) (by omega) (by omega), w64 (by omega) (by omega)]
  · rw [if_neg h, if_neg h]
theorem alive_is : angeluslaw25_alive.f = some true := by
  unfold angeluslaw25_alive.f
  rw [ticks_is, lag_is, hop_is, good_is]
  decide +kernel
def rest (d j o r : Int) : Int := if good d j o r = true then 2 * j + 2 * lag d j o r (8 * (o + 1)) + 6 else 0
theorem rest_bd (d j o r : Int) : 0 ≤ rest d j o r ∧ rest d j o r ≤ 20705488046 := by
  unfold rest
  split
  · rename_i h
    have hg := good_true h
    have h1 := lag_bd d j o r (8 * (o + 1))
    have h2 := lag_small d j o r (8 * (o + 1)) (by omega)
    omega
  · omega
theorem rest_is (d j o r : Int) : bound_Terms_Rest.f d j o r = some (rest d j o r) := by
  unfold bound_Terms_Rest.f rest
  rw [good_is]
  simp only [Option.bind_some]
  by_cases h : good d j o r = true
  · have hg := good_true h
    have h1 := lag_bd d j o r (8 * (o + 1))
    have h2 := lag_small d j o r (8 * (o + 1)) (by omega)
    rw [if_pos h, if_pos h, w64 (x := o + 1) (by omega) (by omega), w64 (x := 8 * (o + 1)) (by omega) (by omega), lag_is]
    simp only [Option.bind_some]
    rw [w64 (x := 2 * j) (by omega) (by omega), w64 (x := 2 * lag d j o r (8 * (o + 1))) (by omega) (by omega), w64 (x := 2 * j + 2 * lag d j o r (8 * (o + 1))) (by omega) (by omega), w64 (by omega) (by omega)]
  · rw [if_neg h, if_neg h]

def error (d j o r n : Int) : Int := if 0 ≤ n ∧ n ≤ 63 then n * (hop d j o r + rest d j o r) else 0
theorem error_bd (d j o r n : Int) : 0 ≤ error d j o r n ∧ error d j o r n ≤ 1956668621544 := by
  unfold error
  have h1 := hop_bd d j o r
  have h2 := rest_bd d j o r
  split
  · have := mb (a := n) (b := hop d j o r + rest d j o r) (A := 63) (B := 31058232088) (by omega) (by omega) (by omega) (by omega)
    omega
  · omega
theorem error_is (k : Nat) (d j o r n : Int) : bound_Terms_Error.f (k + 1) d j o r n = some (error d j o r n) := by
  have h1 := hop_bd d j o r
  have h2 := rest_bd d j o r
  unfold bound_Terms_Error.f error
  by_cases h : n < 0
  · rw [if_pos h, if_neg (by omega)]
    rfl
  · rw [if_neg h]
    by_cases h3 : n > 63
    · rw [decide_eq_true h3, if_neg (by omega)]
      rfl
    · rw [decide_eq_false h3, if_pos (show 0 ≤ n ∧ n ≤ 63 from ⟨by omega, by omega⟩)]
      simp only [bound_Terms_Error.j0, Bool.false_eq_true, if_false, hop_is, rest_is, Option.bind_some]
      have h4 := mb (a := n) (b := hop d j o r + rest d j o r) (A := 63) (B := 31058232088) (by omega) (by omega) (by omega) (by omega)
      rw [w64 (x := hop d j o r + rest d j o r) (by omega) (by omega), w64 (by omega) (by omega)]
theorem rgood_is (d j o r : Int) : angelusref25_Good.f d j o r = some (good d j o r) := good_is d j o r
theorem rticks_is (d j o r n : Int) : angelusref25_Ticks.f d j o r n = some (ticks d j o r n) := ticks_is d j o r n

theorem ceil (n D : Int) (hD : 0 < D) : (n + D - 1) / D = if n / D * D < n then n / D + 1 else n / D := by
  have h1 := Int.emod_add_mul_ediv n D
  have h2 := Int.emod_nonneg n (show D ≠ 0 by omega)
  have h3 := Int.emod_lt_of_pos n hD
  have h4 : n / D * D = D * (n / D) := Int.mul_comm _ _
  by_cases h : n / D * D < n
  · rw [if_pos h]
    refine ((Int.ediv_emod_unique (r := n % D - 1) hD).2 ⟨?_, by omega, by omega⟩).1
    rw [Int.mul_add, Int.mul_one]
    omega
  · rw [if_neg h]
    refine ((Int.ediv_emod_unique (r := n % D + D - 1) hD).2 ⟨?_, by omega, by omega⟩).1
    omega

theorem rlag_is (d j o r n : Int) : angelusref25_Lag.f d j o r n = some (lag d j o r n) := by
  unfold angelusref25_Lag.f lag
  rw [rgood_is]
  simp only [Option.bind_some]
  by_cases h : good d j o r = true
  · have hg := good_true h
    have hp := prod_bd d j o r n h
    rw [if_pos h, if_pos h, rticks_is]
    simp only [Option.bind_some]
    rw [w64 (x := 1000 - d) (by omega) (by omega), if_neg (by omega), w64 (x := 2 * d) (by omega) (by omega), w64 (x := 2 * d * ticks d j o r n) (by omega) (by omega), Int.tdiv_eq_ediv_of_nonneg (by omega), ceil _ _ (by omega)]
    generalize 2 * d * ticks d j o r n = m at hp
    have hq := div_bd (a := m) (b := 1000 - d) (by omega) (by omega)
    have hm := Int.ediv_mul_le m (show 1000 - d ≠ 0 by omega)
    have hm0 : 0 ≤ m / (1000 - d) * (1000 - d) := Int.mul_nonneg hq.1 (by omega)
    rw [w64 (x := m / (1000 - d)) (by omega) (by omega), w64 (x := m / (1000 - d) * (1000 - d)) (by omega) (by omega), w64 (x := m / (1000 - d) + 1) (by omega) (by omega)]
    split <;> rfl
  · rw [if_neg h, if_neg h]

theorem rhop_is (d j o r : Int) : angelusref25_Hop.f d j o r = some (hop d j o r) := by
  unfold angelusref25_Hop.f hop
  rw [rgood_is]
  simp only [Option.bind_some]
  by_cases h : good d j o r = true
  · have hg := good_true h
    have h1 := lag_bd d j o r (o + 1)
    have h2 := lag_small d j o r (o + 1) (by omega)
    rw [if_pos h, if_pos h, w64 (x := o + 1) (by omega) (by omega), rlag_is]
    simp only [Option.bind_some]
    rw [w64 (x := 2 * j) (by omega) (by omega), w64 (x := 2 * j + lag d j o r (o + 1)) (by omega) (by omega), w64 (by omega) (by omega)]
  · rw [if_neg h, if_neg h]
theorem rrest_is (d j o r : Int) : angelusref25_Rest.f d j o r = some (rest d j o r) := by
  unfold angelusref25_Rest.f rest
  rw [rgood_is]
  simp only [Option.bind_some]
  by_cases h : good d j o r = true
  · have hg := good_true h
    have h1 := lag_bd d j o r (8 * (o + 1))
    have h2 := lag_small d j o r (8 * (o + 1)) (by omega)
    rw [if_pos h, if_pos h, w64 (x := o + 1) (by omega) (by omega), w64 (x := 8 * (o + 1)) (by omega) (by omega), rlag_is]
    simp only [Option.bind_some]
    rw [w64 (x := 2 * j) (by omega) (by omega), w64 (x := 2 * lag d j o r (8 * (o + 1))) (by omega) (by omega), w64 (x := 2 * j + 2 * lag d j o r (8 * (o + 1))) (by omega) (by omega), w64 (by omega) (by omega)]
  · rw [if_neg h, if_neg h]
theorem rerror_is (k : Nat) (d j o r n : Int) : angelusref25_Error.f (k + 1) d j o r n = some (error d j o r n) := by
  have h1 := hop_bd d j o r
  have h2 := rest_bd d j o r
  unfold angelusref25_Error.f error
  by_cases h : n < 0
  · rw [if_pos h, if_neg (by omega)]
    rfl
  · rw [if_neg h]
    by_cases h3 : n > 63
    · rw [decide_eq_true h3, if_neg (by omega)]
      rfl
    · rw [decide_eq_false h3, if_pos (show 0 ≤ n ∧ n ≤ 63 from ⟨by omega, by omega⟩)]
      simp only [angelusref25_Error.j0, Bool.false_eq_true, if_false, rhop_is, rrest_is, Option.bind_some]
      have h4 := mb (a := n) (b := hop d j o r + rest d j o r) (A := 63) (B := 31058232088) (by omega) (by omega) (by omega) (by omega)
      rw [w64 (x := hop d j o r + rest d j o r) (by omega) (by omega), w64 (by omega) (by omega)]

theorem pure (d j o r a b : Int) : angeluslaw25_BoundIs.f (0 + 1) d j o r a b = some true := by
  unfold angeluslaw25_BoundIs.f
  rw [alive_is, good_is, rgood_is, ticks_is, rticks_is, lag_is, rlag_is, hop_is, rhop_is, rest_is, rrest_is, error_is, rerror_is]
  unfold bound_Of.f
  simp

set_option linter.unusedVariables false in
theorem walk (a0_0 : Int) (a0_1 : Int) (a0_2 : Int) (a0_3 : Int) (a1 : Int) (a2 : Int) (W : World) (w0_0 : (Lit.int .i64 a0_0).wf = true) (w0_1 : (Lit.int .i64 a0_1).wf = true) (w0_2 : (Lit.int .i64 a0_2).wf = true) (w0_3 : (Lit.int .i64 a0_3).wf = true) (w1 : (Lit.int .i64 a1).wf = true) (w2 : (Lit.int .i64 a2).wf = true) :
    Calls Try.prog 5 #[.agg #[.int .i64 a0_0, .int .i64 a0_1, .int .i64 a0_2, .int .i64 a0_3], .int .i64 a1, .int .i64 a2] W fun e w' => e = .returned (.bool true) ∧ Below W.heap.size W w' := by
  exact angeluslaw25_BoundIs.calls 1 a0_0 a0_1 a0_2 a0_3 a1 a2 true ⟨rfl⟩ W (pure a0_0 a0_1 a0_2 a0_3 a1 a2)
end Go.Proofs.Ytlklbcaoooeioaa.BoundIsW
