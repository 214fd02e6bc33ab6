/- A greater timeout makes a net settle later, by as many rounds for each node, and one more; less than its patience it isn't said. No condition. -/
import Derived.Test.YtlklbcaoooeioaaPBoundWaitsx2
import Derived.Test.YtlklbcaoooeioaaLf
namespace Go.Proofs.Ytlklbcaoooeioaa.BoundWaitsW
open Go.RowKit Go.Proofs.Ytlklbcaoooeioaa.PBoundWaits Go.Proofs.YtlklbcaoooeioaaW.PrintWords Go.Proofs.YtlklbcaoooeioaaW.PrintLast Go.Proofs.YtlklbcaoooeioaaW.PrintMore
theorem w64 {x : Int} (h0 : -9223372036854775808 ≤ x) (h1 : x ≤ 9223372036854775807) : wrap64 x = x := by unfold wrap64; omega
theorem mb {a b A B : Int} (h0 : 0 ≤ a) (h1 : a ≤ A) (h2 : 0 ≤ b) (h3 : b ≤ B) : 0 ≤ a * b ∧ a * b ≤ A * B := ⟨Int.mul_nonneg h0 h2, Int.mul_le_mul h1 h3 h2 (by omega)⟩

def good (d j o r : Int) : Bool := decide (0 ≤ d ∧ d ≤ 10 ∧ 0 ≤ j ∧ j ≤ 20 ∧ 1 ≤ o ∧ o ≤ 1000 ∧ 1 ≤ r ∧ r ≤ 64)
theorem good_true {d j o r : Int} (h : good d j o r = true) : 0 ≤ d ∧ d ≤ 10 ∧ 0 ≤ j ∧ j ≤ 20 ∧ 1 ≤ o ∧ o ≤ 1000 ∧ 1 ≤ r ∧ r ≤ 64 := of_decide_eq_true h
theorem good_is (d j o r : Int) : bound_Terms_Good.f d j o r = some (good d j o r) := by
  unfold bound_Terms_Good.f good
  repeat' split
  all_goals first
    | (congr 1; rw [decide_eq_decide]; omega)
    | (congr 1; symm; rw [decide_eq_false_iff_not]; omega)

def ticks (d j o r n : Int) : Int := if good d j o r = true ∧ 0 ≤ n ∧ n ≤ 1073741824 then n * r * (1000 + d) else 0
theorem ticks_bd (d j o r n : Int) : 0 ≤ ticks d j o r n ∧ ticks d j o r n ≤ 69406671503360 := by
  unfold ticks
  split
  · rename_i h
    have hg := good_true h.1
    have h1 := mb (a := n) (b := r) (A := 1073741824) (B := 64) (by omega) (by omega) (by omega) (by omega)
    have h2 := mb (a := n * r) (b := 1000 + d) (A := 1073741824 * 64) (B := 1010) h1.1 h1.2 (by omega) (by omega)
    omega
  · omega
theorem ticks_is (d j o r n : Int) : bound_Terms_Ticks.f d j o r n = some (ticks d j o r n) := by
  unfold bound_Terms_Ticks.f ticks
  rw [good_is]
  simp only [Option.bind_some]
  by_cases h : good d j o r = true
  · have hg := good_true h
    rw [if_pos h]
    by_cases h1 : n < 0
    · rw [if_pos h1, if_neg (by omega)]
    · rw [if_neg h1]
      by_cases h2 : n > 1073741824
      · rw [if_pos h2, if_neg (by omega)]
      · have h3 := mb (a := n) (b := r) (A := 1073741824) (B := 64) (by omega) (by omega) (by omega) (by omega)
        have h4 := mb (a := n * r) (b := 1000 + d) (A := 1073741824 * 64) (B := 1010) h3.1 h3.2 (by omega) (by omega)
        rw [if_neg h2, if_pos (show good d j o r = true ∧ 0 ≤ n ∧ n ≤ 1073741824 from ⟨h, by omega, by omega⟩), w64 (x := n * r) (by omega) (by omega), w64 (x := 1000 + d) (by omega) (by omega), w64 (by omega) (by omega)]
  · rw [if_neg h, if_neg (fun h2 => h h2.1)]

def lag (d j o r n : Int) : Int := if good d j o r = true then (2 * d * ticks d j o r n + (1000 - d) - 1) / (1000 - d) else 0
theorem div_bd {a b : Int} (h0 : 0 ≤ a) (h1 : 0 < b) : 0 ≤ a / b ∧ a / b ≤ a := ⟨Int.ediv_nonneg h0 (by omega), Int.ediv_le_self _ h0⟩
theorem prod_bd (d j o r n : Int) (h : good d j o r = true) : 0 ≤ 2 * d * ticks d j o r n ∧ 2 * d * ticks d j o r n ≤ 1388133430067200 := by
  have hg := good_true h
  have hb := ticks_bd d j o r n
  have := mb (a := 2 * d) (b := ticks d j o r n) (A := 20) (B := 69406671503360) (by omega) (by omega) hb.1 hb.2
  omega
theorem lag_bd (d j o r n : Int) : 0 ≤ lag d j o r n ∧ lag d j o r n ≤ 1388133430068200 := by
  unfold lag
  split
  · rename_i h
    have hg := good_true h
    have hp := prod_bd d j o r n h
    have := div_bd (a := 2 * d * ticks d j o r n + (1000 - d) - 1) (b := 1000 - d) (by omega) (by omega)
    omega
  · omega
theorem lag_is (d j o r n : Int) : bound_Terms_Lag.f d j o r n = some (lag d j o r n) := by
  unfold bound_Terms_Lag.f lag
  rw [good_is, ticks_is]
  simp only [Option.bind_some]
  by_cases h : good d j o r = true
  · have hg := good_true h
    have hp := prod_bd d j o r n h
    have hq := div_bd (a := 2 * d * ticks d j o r n + (1000 - d) - 1) (b := 1000 - d) (by omega) (by omega)
    rw [if_pos h, if_pos h, w64 (x := 1000 - d) (by omega) (by omega), if_neg (by omega), w64 (x := 2 * d) (by omega) (by omega), w64 (x := 2 * d * ticks d j o r n) (by omega) (by omega), w64 (x := 2 * d * ticks d j o r n + (1000 - d)) (by omega) (by omega), w64 (x := 2 * d * ticks d j o r n + (1000 - d) - 1) (by omega) (by omega), Int.tdiv_eq_ediv_of_nonneg (by omega), w64 (by omega) (by omega)]
  · rw [if_neg h, if_neg h]

/-- Small rounds, small lags. -/
theorem lag_small (d j o r n : Int) (hn : n ≤ 8008) : lag d j o r n ≤ 10352744000 := by
  unfold lag
  split
  · rename_i h
    have hg := good_true h
    have ht : 0 ≤ ticks d j o r n ∧ ticks d j o r n ≤ 517637120 := by
      unfold ticks
      split
      · have h1 := mb (a := n) (b := r) (A := 8008) (B := 64) (by omega) (by omega) (by omega) (by omega)
        have h2 := mb (a := n * r) (b := 1000 + d) (A := 8008 * 64) (B := 1010) h1.1 h1.2 (by omega) (by omega)
        omega
      · omega
    have hp := mb (a := 2 * d) (b := ticks d j o r n) (A := 20) (B := 517637120) (by omega) (by omega) ht.1 ht.2
    have := div_bd (a := 2 * d * ticks d j o r n + (1000 - d) - 1) (b := 1000 - d) (by omega) (by omega)
    omega
  · omega
def hop (d j o r : Int) : Int := if good d j o r = true then 2 * j + lag d j o r (o + 1) + 2 else 0
theorem hop_bd (d j o r : Int) : 0 ≤ hop d j o r ∧ hop d j o r ≤ 10352744042 := by
  unfold hop
  split
  · rename_i h
    have hg := good_true h
    have h1 := lag_bd d j o r (o + 1)
    have h2 := lag_small d j o r (o + 1) (by omega)
    omega
  · omega
theorem hop_is (d j o r : Int) : bound_Terms_Hop.f d j o r = some (hop d j o r) := by
  unfold bound_Terms_Hop.f hop
  rw [good_is]
  simp only [Option.bind_some]
  by_cases h : good d j o r = true
  · have hg := good_true h
    have h1 := lag_bd d j o r (o + 1)
    have h2 := lag_small d j o r (o + 1) (by omega)
    rw [if_pos h, if_pos h, w64 (x := o + 1) (by omega) (by omega), lag_is]
    simp only [Option.bind_some]
    rw [w64 (x := 2 * j) (by omega) (by omega), w64 (x := 2 * j + lag d j o r (o + 1)) (by omega) (by omega), w64 (by omega) (by omega)]
  · rw [if_neg h, if_neg h]
theorem alive_is : angeluslaw25_alive.f = some true := by
  unfold angeluslaw25_alive.f
  rw [ticks_is, lag_is, hop_is, good_is]
  decide +kernel
def ngood (n w m i q : Int) : Bool := decide (1 ≤ n ∧ n ≤ 64 ∧ 0 ≤ w ∧ w < n ∧ 0 ≤ m ∧ m ≤ 1000 ∧ 0 ≤ i ∧ i ≤ 1000 ∧ 1 ≤ q ∧ q ≤ 8)
theorem ngood_true {n w m i q : Int} (h : ngood n w m i q = true) : 1 ≤ n ∧ n ≤ 64 ∧ 0 ≤ w ∧ w < n ∧ 0 ≤ m ∧ m ≤ 1000 ∧ 0 ≤ i ∧ i ≤ 1000 ∧ 1 ≤ q ∧ q ≤ 8 := of_decide_eq_true h
theorem ngood_is (n w m i q : Int) : bound_Net_Good.f n w m i q = some (ngood n w m i q) := by
  unfold bound_Net_Good.f ngood
  repeat' split
  all_goals first
    | (congr 1; rw [decide_eq_decide]; omega)
    | (congr 1; symm; rw [decide_eq_false_iff_not]; omega)

def behind (n w m i q : Int) : Int := if ngood n w m i q = true then w * (m + 2) else 0
theorem behind_bd (n w m i q : Int) : 0 ≤ behind n w m i q ∧ behind n w m i q ≤ 63126 := by
  unfold behind
  split
  · rename_i h
    have hg := ngood_true h
    have := mb (a := w) (b := m + 2) (A := 63) (B := 1002) (by omega) (by omega) (by omega) (by omega)
    omega
  · omega
theorem behind_is (n w m i q : Int) : bound_Net_Behind.f n w m i q = some (behind n w m i q) := by
  unfold bound_Net_Behind.f behind
  rw [ngood_is]
  simp only [Option.bind_some]
  by_cases h : ngood n w m i q = true
  · have hg := ngood_true h
    have := mb (a := w) (b := m + 2) (A := 63) (B := 1002) (by omega) (by omega) (by omega) (by omega)
    rw [if_pos h, if_pos h, w64 (x := m + 2) (by omega) (by omega), w64 (by omega) (by omega)]
  · rw [if_neg h, if_neg h]

def patience (n w m i q : Int) : Int := if ngood n w m i q = true then behind n w m i q + 4 else 0
theorem patience_is (n w m i q : Int) : bound_Net_Patience.f n w m i q = some (patience n w m i q) := by
  have hb := behind_bd n w m i q
  unfold bound_Net_Patience.f patience
  rw [ngood_is, behind_is]
  simp only [Option.bind_some]
  by_cases h : ngood n w m i q = true
  · rw [if_pos h, if_pos h, w64 (by omega) (by omega)]
  · rw [if_neg h, if_neg h]

def late (n w i q l t : Int) : Int := (n + 1) * (t + 2) + w * (3 * (l + 2) + i + q * (l + 2)) + 4
theorem late_bd {n w m i q l t : Int} (h : ngood n w m i q = true) (hl : 0 ≤ l ∧ l ≤ 63126) (ht : 0 ≤ t ∧ t ≤ 1000) :
    (0 ≤ q * (l + 2) ∧ q * (l + 2) ≤ 505024) ∧ (0 ≤ w * (3 * (l + 2) + i + q * (l + 2)) ∧ w * (3 * (l + 2) + i + q * (l + 2)) ≤ 43811712) ∧ 0 ≤ (n + 1) * (t + 2) ∧ (n + 1) * (t + 2) ≤ 65130 := by
  have hg := ngood_true h
  have h1 := mb (a := q) (b := l + 2) (A := 8) (B := 63128) (by omega) (by omega) (by omega) (by omega)
  have h2 := mb (a := w) (b := 3 * (l + 2) + i + q * (l + 2)) (A := 63) (B := 3 * 63128 + 1000 + 8 * 63128) (by omega) (by omega) (by omega) (by omega)
  have h3 := mb (a := n + 1) (b := t + 2) (A := 65) (B := 1002) (by omega) (by omega) (by omega) (by omega)
  omega

def settle (n w m i q t : Int) : Int := if ngood n w m i q = true ∧ patience n w m i q ≤ t ∧ t ≤ 1000 then late n w i q (behind n w m i q) t else 0
theorem settle_wrap {n w m i q l t : Int} (h : ngood n w m i q = true) (hl : 0 ≤ l ∧ l ≤ 63126) (ht : 0 ≤ t ∧ t ≤ 1000) :
    wrap64 ((wrap64 ((wrap64 ((wrap64 (n + 1)) * (wrap64 (t + 2)))) + (wrap64 (w * (wrap64 ((wrap64 ((wrap64 (3 * (wrap64 (l + 2)))) + i)) + (wrap64 (q * (wrap64 (l + 2)))))))))) + 4) = late n w i q l t := by
  have hg := ngood_true h
  have hb := late_bd h hl ht
  unfold late
  rw [w64 (x := n + 1) (by omega) (by omega), w64 (x := t + 2) (by omega) (by omega), w64 (x := l + 2) (by omega) (by omega), w64 (x := q * (l + 2)) (by omega) (by omega), w64 (x := 3 * (l + 2)) (by omega) (by omega), w64 (x := 3 * (l + 2) + i) (by omega) (by omega),
    w64 (x := 3 * (l + 2) + i + q * (l + 2)) (by omega) (by omega), w64 (x := w * (3 * (l + 2) + i + q * (l + 2))) (by omega) (by omega), w64 (x := (n + 1) * (t + 2)) (by omega) (by omega), w64 (x := (n + 1) * (t + 2) + w * (3 * (l + 2) + i + q * (l + 2))) (by omega) (by omega), w64 (by omega) (by omega)]
theorem settle_is (n w m i q t : Int) : bound_Net_Settle.f n w m i q t = some (settle n w m i q t) := by
  have hb := behind_bd n w m i q
  unfold bound_Net_Settle.f settle
  rw [ngood_is, patience_is, behind_is]
  simp only [Option.bind_some]
  by_cases h : ngood n w m i q = true
  · have hp : patience n w m i q = behind n w m i q + 4 := by unfold patience; rw [if_pos h]
    rw [if_pos h]
    by_cases h1 : t < patience n w m i q
    · rw [if_pos h1, if_neg (by omega)]
    · rw [if_neg h1]
      by_cases h2 : t > 1000
      · rw [if_pos h2, if_neg (by omega)]
      · rw [if_neg h2, if_pos (show ngood n w m i q = true ∧ patience n w m i q ≤ t ∧ t ≤ 1000 from ⟨h, by omega, by omega⟩), settle_wrap h hb (by omega)]
  · rw [if_neg h, if_neg (fun h2 => h h2.1)]
theorem pure (n w m i q t b : Int) : angeluslaw25_BoundWaits.f (0 + 1) n w m i q t b = some true := by
  have hb := behind_bd n w m i q
  have out : angeluslaw25_BoundWaits.j0 (0 + 1) t b true n w m i q = some true := rfl
  unfold angeluslaw25_BoundWaits.f
  rw [alive_is]
  simp only [Option.bind_some, if_true]
  by_cases h1 : b < 0
  · rw [if_pos h1, out]
  · rw [if_neg h1]
    by_cases h2 : b > 1000
    · rw [if_pos h2, out]
    · rw [if_neg h2]
      by_cases h3 : t < 1
      · rw [if_pos h3, out]
      · rw [if_neg h3, w64 (x := 1000 - b) (by omega) (by omega)]
        by_cases h4 : t > 1000 - b
        · rw [decide_eq_true h4, out]
        · rw [decide_eq_false h4]
          simp only [angeluslaw25_BoundWaits.j0, Bool.false_eq_true, if_false, settle_is, ngood_is, patience_is, Option.bind_some]
          rw [w64 (x := t + b) (by omega) (by omega)]
          by_cases h : ngood n w m i q = true
          · have hg := ngood_true h
            rw [if_pos h]
            by_cases h5 : t < patience n w m i q
            · rw [if_pos h5]
              have : settle n w m i q t = 0 := by unfold settle; rw [if_neg (by omega)]
              rw [this]
              rfl
            · rw [if_neg h5]
              have e1 : settle n w m i q t = late n w i q (behind n w m i q) t := by unfold settle; rw [if_pos ⟨h, by omega, by omega⟩]
              have e2 : settle n w m i q (t + b) = late n w i q (behind n w m i q) (t + b) := by unfold settle; rw [if_pos ⟨h, by omega, by omega⟩]
              have hl := late_bd (t := t) h hb (by omega)
              have hbn := mb (a := b) (b := n + 1) (A := 1000) (B := 65) (by omega) (by omega) (by omega) (by omega)
              rw [e1, e2]
              have e3 : late n w i q (behind n w m i q) (t + b) = late n w i q (behind n w m i q) t + b * (n + 1) := by
                unfold late
                have : (n + 1) * (t + b + 2) = (n + 1) * (t + 2) + b * (n + 1) := by
                  rw [show t + b + 2 = (t + 2) + b by omega, Int.mul_add, Int.mul_comm b]
                omega
              have e4 : (n + 1) * (t + 2) ≥ 2 * (t + 2) := Int.mul_le_mul_of_nonneg_right (by omega) (by omega)
              have e5 : late n w i q (behind n w m i q) t > t := by
                unfold late
                omega
              have e6 : late n w i q (behind n w m i q) t ≤ 50000000 := by
                unfold late
                omega
              rw [if_pos e5, w64 (x := n + 1) (by omega) (by omega), w64 (x := b * (n + 1)) (by omega) (by omega), w64 (by omega) (by omega), e3]
              simp
          · rw [if_neg h]
            have : settle n w m i q t = 0 := by unfold settle; rw [if_neg (fun h2 => h h2.1)]
            rw [this]
            rfl

set_option linter.unusedVariables false in
theorem walk (a0_0 : Int) (a0_1 : Int) (a0_2 : Int) (a0_3 : Int) (a0_4 : Int) (a1 : Int) (a2 : Int) (W : World) (w0_0 : (Lit.int .i64 a0_0).wf = true) (w0_1 : (Lit.int .i64 a0_1).wf = true) (w0_2 : (Lit.int .i64 a0_2).wf = true) (w0_3 : (Lit.int .i64 a0_3).wf = true) (w0_4 : (Lit.int .i64 a0_4).wf = true) (w1 : (Lit.int .i64 a1).wf = true) (w2 : (Lit.int .i64 a2).wf = true) :
    Calls Try.prog 7 #[.agg #[.int .i64 a0_0, .int .i64 a0_1, .int .i64 a0_2, .int .i64 a0_3, .int .i64 a0_4], .int .i64 a1, .int .i64 a2] W fun e w' => e = .returned (.bool true) ∧ Below W.heap.size W w' := by
  exact angeluslaw25_BoundWaits.calls 1 a0_0 a0_1 a0_2 a0_3 a0_4 a1 a2 true W (pure a0_0 a0_1 a0_2 a0_3 a0_4 a1 a2)
end Go.Proofs.Ytlklbcaoooeioaa.BoundWaitsW
