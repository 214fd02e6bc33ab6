/- No bound falls as a term grows. No condition. -/
import Derived.Test.YtlklbcaoooeioaaQBoundGrowsx3
import Derived.Test.YtlklbcaoooeioaaLf
namespace Go.Proofs.Ytlklbcaoooeioaa.BoundGrowsW
open Go.RowKit Go.Proofs.Ytlklbcaoooeioaa.QBoundGrows Go.Proofs.YtlklbcaoooeioaaW.PrintWords Go.Proofs.YtlklbcaoooeioaaW.PrintLast Go.Proofs.YtlklbcaoooeioaaW.PrintMore
theorem w64 {x : Int} (h0 : -9223372036854775808 ≤ x) (h1 : x ≤ 9223372036854775807) : wrap64 x = x := by unfold wrap64; omega
theorem mb {a b A B : Int} (h0 : 0 ≤ a) (h1 : a ≤ A) (h2 : 0 ≤ b) (h3 : b ≤ B) : 0 ≤ a * b ∧ a * b ≤ A * B := ⟨Int.mul_nonneg h0 h2, Int.mul_le_mul h1 h3 h2 (by omega)⟩

def good (d j o r : Int) : Bool := decide (0 ≤ d ∧ d ≤ 10 ∧ 0 ≤ j ∧ j ≤ 20 ∧ 1 ≤ o ∧ o ≤ 1000 ∧ 1 ≤ r ∧ r ≤ 64)
theorem good_true {d j o r : Int} (h : good d j o r = true) : 0 ≤ d ∧ d ≤ 10 ∧ 0 ≤ j ∧ j ≤ 20 ∧ 1 ≤ o ∧ o ≤ 1000 ∧ 1 ≤ r ∧ r ≤ 64 := of_decide_eq_true h
theorem good_is (d j o r : Int) : bound_Terms_Good.f d j o r = some (good d j o r) := by
  unfold bound_Terms_Good.f good
  repeat' split
  all_goals first
    | (congr 1; rw [decide_eq_decide]; omega)
    | (congr 1; symm; rw [decide_eq_false_iff_not]; omega)

def ticks (d j o r n : Int) : Int := if good d j o r = true ∧ 0 ≤ n ∧ n ≤ 1073741824 then n * r * (1000 + d) else 0
theorem ticks_bd (d j o r n : Int) : 0 ≤ ticks d j o r n ∧ ticks d j o r n ≤ 69406671503360 := by
  unfold ticks
  split
  · rename_i h
    have hg := good_true h.1
    have h1 := mb (a := n) (b := r) (A := 1073741824) (B := 64) (by omega) (by omega) (by omega) (by omega)
    have h2 := mb (a := n * r) (b := 1000 + d) (A := 1073741824 * 64) (B := 1010) h1.1 h1.2 (by omega) (by omega)
    omega
  · omega
theorem ticks_is (d j o r n : Int) : bound_Terms_Ticks.f d j o r n = some (ticks d j o r n) := by
  unfold bound_Terms_Ticks.f ticks
  rw [good_is]
  simp only [Option.bind_some]
  by_cases h : good d j o r = true
  · have hg := good_true h
    rw [if_pos h]
    by_cases h1 : n < 0
    · rw [if_pos h1, if_neg (by omega)]
    · rw [if_neg h1]
      by_cases h2 : n > 1073741824
      · rw [if_pos h2, if_neg (by omega)]
      · have h3 := mb (a := n) (b := r) (A := 1073741824) (B := 64) (by omega) (by omega) (by omega) (by omega)
        have h4 := mb (a := n * r) (b := 1000 + d) (A := 1073741824 * 64) (B := 1010) h3.1 h3.2 (by omega) (by omega)
        rw [if_neg h2, if_pos (show good d j o r = true ∧ 0 ≤ n ∧ n ≤ 1073741824 from ⟨h, by omega, by omega⟩), w64 (x := n * r) (by omega) (by omega), w64 (x := 1000 + d) (by omega) (by omega), w64 (by omega) (by omega)]
  · rw [if_neg h, if_neg (fun h2 => h h2.1)]

def lag (d j o r n : Int) : Int := if good d j o r = true then (2 * d * ticks d j o r n + (1000 - d) - 1) / (1000 - d) else 0
theorem div_bd {a b : Int} (h0 : 0 ≤ a) (h1 : 0 < b) : 0 ≤ a / b ∧ a / b ≤ a := ⟨Int.ediv_nonneg h0 (by omega), Int.ediv_le_self _ h0⟩
theorem prod_bd (d j o r n : Int) (h : good d j o r = true) : 0 ≤ 2 * d * ticks d j o r n ∧ 2 * d * ticks d j o r n ≤ 1388133430067200 := by
  have hg := good_true h
  have hb := ticks_bd d j o r n
  have := mb (a := 2 * d) (b := ticks d j o r n) (A := 20) (B := 69406671503360) (by omega) (by omega) hb.1 hb.2
  omega
theorem lag_bd (d j o r n : Int) : 0 ≤ lag d j o r n ∧ lag d j o r n ≤ 1388133430068200 := by
  unfold lag
  split
  · rename_i h
    have hg := good_true h
    have hp := prod_bd d j o r n h
    have := div_bd (a := 2 * d * ticks d j o r n + (1000 - d) - 1) (b := 1000 - d) (by omega) (by omega)
    omega
  · omega
theorem lag_is (d j o r n : Int) : bound_Terms_Lag.f d j o r n = some (lag d j o r n) := by
  unfold bound_Terms_Lag.f lag
  rw [good_is, ticks_is]
  simp only [Option.bind_some]
  by_cases h : good d j o r = true
  · have hg := good_true h
    have hp := prod_bd d j o r n h
    have hq := div_bd (a := 2 * d * ticks d j o r n + (1000 - d) - 1) (b := 1000 - d) (by omega) (by omega)
    rw [if_pos h, if_pos h, w64 (x := 1000 - d) (by omega) (by omega), if_neg (by omega), w64 (x := 2 * d) (by omega) (by omega), w64 (x := 2 * d * ticks d j o r n) (by omega) (by omega), w64 (x := 2 * d * ticks d j o r n + (1000 - d)) (by omega) (by omega), w64 (x := 2 * d * ticks d j o r n + (1000 - d) - 1) (by omega) (by omega), Int.tdiv_eq_ediv_of_nonneg (by omega), w64 (by omega) (by omega)]
  · rw [if_neg h, if_neg h]

/-- Small rounds, small lags. -/
theorem lag_small (d j o r n : Int) (hn : n ≤ 8008) : lag d j o r n ≤ 10352744000 := by
  unfold lag
  split
  · rename_i h
    have hg := good_true h
    have ht : 0 ≤ ticks d j o r n ∧ ticks d j o r n ≤ 517637120 := by
      unfold ticks
      split
      · have h1 := mb (a := n) (b := r) (A := 8008) (B := 64) (by omega) (by omega) (by omega) (by omega)
        have h2 := mb (a := n * r) (b := 1000 + d) (A := 8008 * 64) (B := 1010) h1.1 h1.2 (by omega) (by omega)
        omega
      · omega
    have hp := mb (a := 2 * d) (b := ticks d j o r n) (A := 20) (B := 517637120) (by omega) (by omega) ht.1 ht.2
    have := div_bd (a := 2 * d * ticks d j o r n + (1000 - d) - 1) (b := 1000 - d) (by omega) (by omega)
    omega
  · omega
def hop (d j o r : Int) : Int := if good d j o r = true then 2 * j + lag d j o r (o + 1) + 2 else 0
theorem hop_bd (d j o r : Int) : 0 ≤ hop d j o r ∧ hop d j o r ≤ 10352744042 := by
  unfold hop
  split
  · rename_i h
    have hg := good_true h
    have h1 := lag_bd d j o r (o + 1)
    have h2 := lag_small d j o r (o + 1) (by omega)
    omega
  · omega
theorem hop_is (d j o r : Int) : bound_Terms_Hop.f d j o r = some (hop d j o r) := by
  unfold bound_Terms_Hop.f hop
  rw [good_is]
  simp only [Option.bind_some]
  by_cases h : good d j o r = true
  · have hg := good_true h
    have h1 := lag_bd d j o r (o + 1)
    have h2 := lag_small d j o r (o + 1) (by omega)
    rw [if_pos h, if_pos h, w64 (x := o + 1) (by omega) (by omega), lag_is]
    simp only [Option.bind_some]
    rw [w64 (x := 2 * j) (by omega) (by omega), w64 (x := 2 * j + lag d j o r (o + 1)) (by omega) (by omega), w64 (by omega) (by omega)]
  · rw [if_neg h, if_neg h]
theorem alive_is : angeluslaw25_alive.f = some true := by
  unfold angeluslaw25_alive.f
  rw [ticks_is, lag_is, hop_is, good_is]
  decide +kernel
def rest (d j o r : Int) : Int := if good d j o r = true then 2 * j + 2 * lag d j o r (8 * (o + 1)) + 6 else 0
theorem rest_bd (d j o r : Int) : 0 ≤ rest d j o r ∧ rest d j o r ≤ 20705488046 := by
  unfold rest
  split
  · rename_i h
    have hg := good_true h
    have h1 := lag_bd d j o r (8 * (o + 1))
    have h2 := lag_small d j o r (8 * (o + 1)) (by omega)
    omega
  · omega
theorem rest_is (d j o r : Int) : bound_Terms_Rest.f d j o r = some (rest d j o r) := by
  unfold bound_Terms_Rest.f rest
  rw [good_is]
  simp only [Option.bind_some]
  by_cases h : good d j o r = true
  · have hg := good_true h
    have h1 := lag_bd d j o r (8 * (o + 1))
    have h2 := lag_small d j o r (8 * (o + 1)) (by omega)
    rw [if_pos h, if_pos h, w64 (x := o + 1) (by omega) (by omega), w64 (x := 8 * (o + 1)) (by omega) (by omega), lag_is]
    simp only [Option.bind_some]
    rw [w64 (x := 2 * j) (by omega) (by omega), w64 (x := 2 * lag d j o r (8 * (o + 1))) (by omega) (by omega), w64 (x := 2 * j + 2 * lag d j o r (8 * (o + 1))) (by omega) (by omega), w64 (by omega) (by omega)]
  · rw [if_neg h, if_neg h]

def error (d j o r n : Int) : Int := if 0 ≤ n ∧ n ≤ 63 then n * (hop d j o r + rest d j o r) else 0
theorem error_bd (d j o r n : Int) : 0 ≤ error d j o r n ∧ error d j o r n ≤ 1956668621544 := by
  unfold error
  have h1 := hop_bd d j o r
  have h2 := rest_bd d j o r
  split
  · have := mb (a := n) (b := hop d j o r + rest d j o r) (A := 63) (B := 31058232088) (by omega) (by omega) (by omega) (by omega)
    omega
  · omega
theorem error_is (k : Nat) (d j o r n : Int) : bound_Terms_Error.f (k + 1) d j o r n = some (error d j o r n) := by
  have h1 := hop_bd d j o r
  have h2 := rest_bd d j o r
  unfold bound_Terms_Error.f error
  by_cases h : n < 0
  · rw [if_pos h, if_neg (by omega)]
    rfl
  · rw [if_neg h]
    by_cases h3 : n > 63
    · rw [decide_eq_true h3, if_neg (by omega)]
      rfl
    · rw [decide_eq_false h3, if_pos (show 0 ≤ n ∧ n ≤ 63 from ⟨by omega, by omega⟩)]
      simp only [bound_Terms_Error.j0, Bool.false_eq_true, if_false, hop_is, rest_is, Option.bind_some]
      have h4 := mb (a := n) (b := hop d j o r + rest d j o r) (A := 63) (B := 31058232088) (by omega) (by omega) (by omega) (by omega)
      rw [w64 (x := hop d j o r + rest d j o r) (by omega) (by omega), w64 (by omega) (by omega)]
def ngood (n w m i q : Int) : Bool := decide (1 ≤ n ∧ n ≤ 64 ∧ 0 ≤ w ∧ w < n ∧ 0 ≤ m ∧ m ≤ 1000 ∧ 0 ≤ i ∧ i ≤ 1000 ∧ 1 ≤ q ∧ q ≤ 8)
theorem ngood_true {n w m i q : Int} (h : ngood n w m i q = true) : 1 ≤ n ∧ n ≤ 64 ∧ 0 ≤ w ∧ w < n ∧ 0 ≤ m ∧ m ≤ 1000 ∧ 0 ≤ i ∧ i ≤ 1000 ∧ 1 ≤ q ∧ q ≤ 8 := of_decide_eq_true h
theorem ngood_is (n w m i q : Int) : bound_Net_Good.f n w m i q = some (ngood n w m i q) := by
  unfold bound_Net_Good.f ngood
  repeat' split
  all_goals first
    | (congr 1; rw [decide_eq_decide]; omega)
    | (congr 1; symm; rw [decide_eq_false_iff_not]; omega)

def behind (n w m i q : Int) : Int := if ngood n w m i q = true then w * (m + 2) else 0
theorem behind_bd (n w m i q : Int) : 0 ≤ behind n w m i q ∧ behind n w m i q ≤ 63126 := by
  unfold behind
  split
  · rename_i h
    have hg := ngood_true h
    have := mb (a := w) (b := m + 2) (A := 63) (B := 1002) (by omega) (by omega) (by omega) (by omega)
    omega
  · omega
theorem behind_is (n w m i q : Int) : bound_Net_Behind.f n w m i q = some (behind n w m i q) := by
  unfold bound_Net_Behind.f behind
  rw [ngood_is]
  simp only [Option.bind_some]
  by_cases h : ngood n w m i q = true
  · have hg := ngood_true h
    have := mb (a := w) (b := m + 2) (A := 63) (B := 1002) (by omega) (by omega) (by omega) (by omega)
    rw [if_pos h, if_pos h, w64 (x := m + 2) (by omega) (by omega), w64 (by omega) (by omega)]
  · rw [if_neg h, if_neg h]

def patience (n w m i q : Int) : Int := if ngood n w m i q = true then behind n w m i q + 4 else 0
theorem patience_is (n w m i q : Int) : bound_Net_Patience.f n w m i q = some (patience n w m i q) := by
  have hb := behind_bd n w m i q
  unfold bound_Net_Patience.f patience
  rw [ngood_is, behind_is]
  simp only [Option.bind_some]
  by_cases h : ngood n w m i q = true
  · rw [if_pos h, if_pos h, w64 (by omega) (by omega)]
  · rw [if_neg h, if_neg h]

def late (n w i q l t : Int) : Int := (n + 1) * (t + 2) + w * (3 * (l + 2) + i + q * (l + 2)) + 4
theorem late_bd {n w m i q l t : Int} (h : ngood n w m i q = true) (hl : 0 ≤ l ∧ l ≤ 63126) (ht : 0 ≤ t ∧ t ≤ 1000) :
    (0 ≤ q * (l + 2) ∧ q * (l + 2) ≤ 505024) ∧ (0 ≤ w * (3 * (l + 2) + i + q * (l + 2)) ∧ w * (3 * (l + 2) + i + q * (l + 2)) ≤ 43811712) ∧ 0 ≤ (n + 1) * (t + 2) ∧ (n + 1) * (t + 2) ≤ 65130 := by
  have hg := ngood_true h
  have h1 := mb (a := q) (b := l + 2) (A := 8) (B := 63128) (by omega) (by omega) (by omega) (by omega)
  have h2 := mb (a := w) (b := 3 * (l + 2) + i + q * (l + 2)) (A := 63) (B := 3 * 63128 + 1000 + 8 * 63128) (by omega) (by omega) (by omega) (by omega)
  have h3 := mb (a := n + 1) (b := t + 2) (A := 65) (B := 1002) (by omega) (by omega) (by omega) (by omega)
  omega

def settle (n w m i q t : Int) : Int := if ngood n w m i q = true ∧ patience n w m i q ≤ t ∧ t ≤ 1000 then late n w i q (behind n w m i q) t else 0
theorem settle_wrap {n w m i q l t : Int} (h : ngood n w m i q = true) (hl : 0 ≤ l ∧ l ≤ 63126) (ht : 0 ≤ t ∧ t ≤ 1000) :
    wrap64 ((wrap64 ((wrap64 ((wrap64 (n + 1)) * (wrap64 (t + 2)))) + (wrap64 (w * (wrap64 ((wrap64 ((wrap64 (3 * (wrap64 (l + 2)))) + i)) + (wrap64 (q * (wrap64 (l + 2)))))))))) + 4) = late n w i q l t := by
  have hg := ngood_true h
  have hb := late_bd h hl ht
  unfold late
  rw [w64 (x := n + 1) (by omega) (by omega), w64 (x := t + 2) (by omega) (by omega), w64 (x := l + 2) (by omega) (by omega), w64 (x := q * (l + 2)) (by omega) (by omega), w64 (x := 3 * (l + 2)) (by omega) (by omega), w64 (x := 3 * (l + 2) + i) (by omega) (by omega),
    w64 (x := 3 * (l + 2) + i + q * (l + 2)) (by omega) (by omega), w64 (x := w * (3 * (l + 2) + i + q * (l + 2))) (by omega) (by omega), w64 (x := (n + 1) * (t + 2)) (by omega) (by omega), w64 (x := (n + 1) * (t + 2) + w * (3 * (l + 2) + i + q * (l + 2))) (by omega) (by omega), w64 (by omega) (by omega)]
theorem settle_is (n w m i q t : Int) : bound_Net_Settle.f n w m i q t = some (settle n w m i q t) := by
  have hb := behind_bd n w m i q
  unfold bound_Net_Settle.f settle
  rw [ngood_is, patience_is, behind_is]
  simp only [Option.bind_some]
  by_cases h : ngood n w m i q = true
  · have hp : patience n w m i q = behind n w m i q + 4 := by unfold patience; rw [if_pos h]
    rw [if_pos h]
    by_cases h1 : t < patience n w m i q
    · rw [if_pos h1, if_neg (by omega)]
    · rw [if_neg h1]
      by_cases h2 : t > 1000
      · rw [if_pos h2, if_neg (by omega)]
      · rw [if_neg h2, if_pos (show ngood n w m i q = true ∧ patience n w m i q ≤ t ∧ t ≤ 1000 from ⟨h, by omega, by omega⟩), settle_wrap h hb (by omega)]
  · rw [if_neg h, if_neg (fun h2 => h h2.1)]
theorem ticks_mono {d j o r n d' j' o' r' n' : Int} (h : good d j o r = true) (h' : good d' j' o' r' = true) (hd : d ≤ d') (hr : r ≤ r') (hn0 : 0 ≤ n) (hn : n ≤ n') (hn1 : n' ≤ 1073741824) : ticks d j o r n ≤ ticks d' j' o' r' n' := by
  have hg := good_true h
  have hg' := good_true h'
  unfold ticks
  rw [if_pos ⟨h, by omega, by omega⟩, if_pos ⟨h', by omega, by omega⟩]
  have h1 := mb (a := n) (b := r) (A := n') (B := r') hn0 hn (by omega) hr
  exact (mb (a := n * r) (b := 1000 + d) (A := n' * r') (B := 1000 + d') h1.1 h1.2 (by omega) (by omega)).2
theorem lag_mono {d j o r n d' j' o' r' n' : Int} (h : good d j o r = true) (h' : good d' j' o' r' = true) (hd : d ≤ d') (hr : r ≤ r') (hn0 : 0 ≤ n) (hn : n ≤ n') (hn1 : n' ≤ 1073741824) : lag d j o r n ≤ lag d' j' o' r' n' := by
  have hg := good_true h
  have hg' := good_true h'
  have ht := ticks_mono h h' hd hr hn0 hn hn1
  have hb := ticks_bd d j o r n
  have hp := (mb (a := 2 * d) (b := ticks d j o r n) (A := 2 * d') (B := ticks d' j' o' r' n') (by omega) (by omega) hb.1 ht)
  unfold lag
  rw [if_pos h, if_pos h']
  generalize 2 * d * ticks d j o r n = x at hp
  generalize 2 * d' * ticks d' j' o' r' n' = y at hp
  -- the ceilings: of x by a greater number, of y by a smaller one
  rw [show x + (1000 - d) - 1 = (x - 1) + 1 * (1000 - d) by omega, Int.add_mul_ediv_right _ _ (by omega), show y + (1000 - d') - 1 = (y - 1) + 1 * (1000 - d') by omega, Int.add_mul_ediv_right _ _ (by omega)]
  by_cases h0 : x = 0
  · subst h0
    have h1 : ((0 : Int) - 1) / (1000 - d) = -1 := ((Int.ediv_emod_unique (r := 1000 - d - 1) (by omega)).2 ⟨by rw [Int.mul_neg]; omega, by omega, by omega⟩).1
    have h2 : -1 ≤ (y - 1) / (1000 - d') := by
      rw [Int.le_ediv_iff_mul_le (by omega)]
      omega
    omega
  · have h2 : (x - 1) / (1000 - d) ≤ (y - 1) / (1000 - d') := by
      rw [Int.le_ediv_iff_mul_le (by omega)]
      have h3 : 0 ≤ (x - 1) / (1000 - d) := Int.ediv_nonneg (by omega) (by omega)
      have h4 := Int.ediv_mul_le (x - 1) (show 1000 - d ≠ 0 by omega)
      have h5 : (x - 1) / (1000 - d) * (1000 - d') ≤ (x - 1) / (1000 - d) * (1000 - d) := Int.mul_le_mul_of_nonneg_left (by omega) h3
      omega
    omega
theorem hop_mono {d j o r d' j' o' r' : Int} (h : good d j o r = true) (h' : good d' j' o' r' = true) (hd : d ≤ d') (hj : j ≤ j') (ho : o ≤ o') (hr : r ≤ r') : hop d j o r ≤ hop d' j' o' r' := by
  have hg := good_true h
  have hg' := good_true h'
  have := lag_mono (n := o + 1) (n' := o' + 1) h h' hd hr (by omega) (by omega) (by omega)
  unfold hop
  rw [if_pos h, if_pos h']
  omega
theorem rest_mono {d j o r d' j' o' r' : Int} (h : good d j o r = true) (h' : good d' j' o' r' = true) (hd : d ≤ d') (hj : j ≤ j') (ho : o ≤ o') (hr : r ≤ r') : rest d j o r ≤ rest d' j' o' r' := by
  have hg := good_true h
  have hg' := good_true h'
  have := lag_mono (n := 8 * (o + 1)) (n' := 8 * (o' + 1)) h h' hd hr (by omega) (by omega) (by omega)
  unfold rest
  rw [if_pos h, if_pos h']
  omega
theorem error_mono {d j o r d' j' o' r' : Int} (n : Int) (h : good d j o r = true) (h' : good d' j' o' r' = true) (hd : d ≤ d') (hj : j ≤ j') (ho : o ≤ o') (hr : r ≤ r') : error d j o r n ≤ error d' j' o' r' n := by
  have h1 := hop_mono h h' hd hj ho hr
  have h2 := rest_mono h h' hd hj ho hr
  unfold error
  split
  · exact Int.mul_le_mul_of_nonneg_left (by omega) (by omega)
  · omega
theorem error_next (d j o r n : Int) (h0 : 0 ≤ n) (h1 : n < 63) : error d j o r n ≤ error d j o r (n + 1) := by
  have h2 := hop_bd d j o r
  have h3 := rest_bd d j o r
  unfold error
  rw [if_pos ⟨by omega, by omega⟩, if_pos ⟨by omega, by omega⟩, Int.add_mul]
  omega

theorem behind_mono {n w m i q n' w' m' i' q' : Int} (h : ngood n w m i q = true) (h' : ngood n' w' m' i' q' = true) (hw : w ≤ w') (hm : m ≤ m') : behind n w m i q ≤ behind n' w' m' i' q' := by
  have hg := ngood_true h
  have hg' := ngood_true h'
  unfold behind
  rw [if_pos h, if_pos h']
  exact (mb (by omega) (by omega) (by omega) (by omega)).2
theorem late_mono {n w i q l n' w' i' q' l' t : Int} (hn0 : 0 ≤ n) (hn : n ≤ n') (hw0 : 0 ≤ w) (hw : w ≤ w') (hi0 : 0 ≤ i) (hi : i ≤ i') (hq0 : 0 ≤ q) (hq : q ≤ q') (hl0 : 0 ≤ l) (hl : l ≤ l') (ht : 0 ≤ t) : late n w i q l t ≤ late n' w' i' q' l' t := by
  have h1 := mb (a := q) (b := l + 2) (A := q') (B := l' + 2) hq0 hq (by omega) (by omega)
  have h2 := mb (a := w) (b := 3 * (l + 2) + i + q * (l + 2)) (A := w') (B := 3 * (l' + 2) + i' + q' * (l' + 2)) hw0 hw (by omega) (by omega)
  have h3 := mb (a := n + 1) (b := t + 2) (A := n' + 1) (B := t + 2) (by omega) (by omega) (by omega) (by omega)
  unfold late
  omega

theorem net (k : Nat) (t n w m i q n' w' m' i' q' : Int) : angeluslaw25_BoundGrows.j1 (k + 1 + 1) t n w m i q n' w' m' i' q' = some true := by
  simp only [angeluslaw25_BoundGrows.j1, ngood_is, Option.bind_some]
  have out : angeluslaw25_BoundGrows.j2 (k + 1) t false n w m i q n' w' m' i' q' = some true := rfl
  by_cases h : ngood n w m i q = true
  · rw [if_pos h]
    by_cases h' : ngood n' w' m' i' q' = true
    · rw [if_pos h']
      by_cases h1 : n ≤ n'
      · rw [if_pos h1]
        by_cases h2 : w ≤ w'
        · rw [if_pos h2]
          by_cases h3 : m ≤ m'
          · rw [if_pos h3]
            by_cases h4 : i ≤ i'
            · rw [if_pos h4]
              by_cases h5 : q ≤ q'
              · rw [decide_eq_true h5]
                simp only [angeluslaw25_BoundGrows.j2, if_true, patience_is, settle_is, Option.bind_some]
                have hb := behind_bd n w m i q
                have hbm := behind_mono h h' h2 h3
                have hp : patience n w m i q ≤ patience n' w' m' i' q' := by
                  unfold patience
                  rw [if_pos h, if_pos h']
                  omega
                rw [if_neg (by omega)]
                by_cases h6 : settle n' w' m' i' q' t > 0
                · rw [if_pos h6]
                  have hs : settle n w m i q t ≤ settle n' w' m' i' q' t := by
                    unfold settle at h6 ⊢
                    have hpp : patience n w m i q = behind n w m i q + 4 := by unfold patience; rw [if_pos h]
                    by_cases h7 : ngood n' w' m' i' q' = true ∧ patience n' w' m' i' q' ≤ t ∧ t ≤ 1000
                    · rw [if_pos h7, if_pos ⟨h, by omega, by omega⟩]
                      have hg := ngood_true h
                      exact late_mono (by omega) h1 (by omega) h2 (by omega) h4 (by omega) h5 hb.1 hbm (by omega)
                    · rw [if_neg h7] at h6
                      omega
                  rw [if_neg (by omega)]
                · rw [if_neg h6]
              · rw [decide_eq_false h5, out]
            · rw [if_neg h4, out]
          · rw [if_neg h3, out]
        · rw [if_neg h2, out]
      · rw [if_neg h1, out]
    · rw [if_neg h', out]
  · rw [if_neg h, out]

theorem pure (d j o r d' j' o' r' hops n w m i q n' w' m' i' q' t : Int) (wh : (Lit.int .i64 hops).wf = true) : angeluslaw25_BoundGrows.f (2 + 1 + 1) d j o r d' j' o' r' hops n w m i q n' w' m' i' q' t = some true := by
  have bh := bounds_i64 wh
  unfold angeluslaw25_BoundGrows.f
  rw [alive_is, good_is, good_is]
  simp only [Option.bind_some, if_true]
  have out : angeluslaw25_BoundGrows.j0 (2 + 1 + 1) hops t false d j o r d' j' o' r' n w m i q n' w' m' i' q' = some true := by
    simp only [angeluslaw25_BoundGrows.j0, Bool.false_eq_true, if_false]
    exact net 1 t n w m i q n' w' m' i' q'
  by_cases h : good d j o r = true
  · rw [if_pos h]
    by_cases h' : good d' j' o' r' = true
    · rw [if_pos h']
      by_cases h1 : d ≤ d'
      · rw [if_pos h1]
        by_cases h2 : j ≤ j'
        · rw [if_pos h2]
          by_cases h3 : o ≤ o'
          · rw [if_pos h3]
            by_cases h4 : r ≤ r'
            · rw [decide_eq_true h4]
              simp only [angeluslaw25_BoundGrows.j0, if_true, hop_is, rest_is, error_is, Option.bind_some]
              have e1 := hop_mono h h' h1 h2 h3 h4
              have e2 := rest_mono h h' h1 h2 h3 h4
              have e3 := error_mono hops h h' h1 h2 h3 h4
              rw [if_neg (by omega), if_neg (by omega), if_neg (by omega)]
              by_cases h5 : hops ≥ 0
              · rw [if_pos h5]
                by_cases h6 : hops < 63
                · have e4 := error_next d j o r hops (by omega) h6
                  rw [if_pos h6, w64 (x := hops + 1) (by omega) (by omega), if_neg (by omega)]
                  exact net 1 t n w m i q n' w' m' i' q'
                · rw [if_neg h6]
                  exact net 1 t n w m i q n' w' m' i' q'
              · rw [if_neg h5]
                exact net 1 t n w m i q n' w' m' i' q'
            · rw [decide_eq_false h4, out]
          · rw [if_neg h3, out]
        · rw [if_neg h2, out]
      · rw [if_neg h1, out]
    · rw [if_neg h', out]
  · rw [if_neg h, out]

set_option linter.unusedVariables false in
theorem walk (a0_0 : Int) (a0_1 : Int) (a0_2 : Int) (a0_3 : Int) (a1_0 : Int) (a1_1 : Int) (a1_2 : Int) (a1_3 : Int) (a2 : Int) (a3_0 : Int) (a3_1 : Int) (a3_2 : Int) (a3_3 : Int) (a3_4 : Int) (a4_0 : Int) (a4_1 : Int) (a4_2 : Int) (a4_3 : Int) (a4_4 : Int) (a5 : Int) (W : World) (w0_0 : (Lit.int .i64 a0_0).wf = true) (w0_1 : (Lit.int .i64 a0_1).wf = true) (w0_2 : (Lit.int .i64 a0_2).wf = true) (w0_3 : (Lit.int .i64 a0_3).wf = true) (w1_0 : (Lit.int .i64 a1_0).wf = true) (w1_1 : (Lit.int .i64 a1_1).wf = true) (w1_2 : (Lit.int .i64 a1_2).wf = true) (w1_3 : (Lit.int .i64 a1_3).wf = true) (w2 : (Lit.int .i64 a2).wf = true) (w3_0 : (Lit.int .i64 a3_0).wf = true) (w3_1 : (Lit.int .i64 a3_1).wf = true) (w3_2 : (Lit.int .i64 a3_2).wf = true) (w3_3 : (Lit.int .i64 a3_3).wf = true) (w3_4 : (Lit.int .i64 a3_4).wf = true) (w4_0 : (Lit.int .i64 a4_0).wf = true) (w4_1 : (Lit.int .i64 a4_1).wf = true) (w4_2 : (Lit.int .i64 a4_2).wf = true) (w4_3 : (Lit.int .i64 a4_3).wf = true) (w4_4 : (Lit.int .i64 a4_4).wf = true) (w5 : (Lit.int .i64 a5).wf = true) :
    Calls Try.prog 8 #[.agg #[.int .i64 a0_0, .int .i64 a0_1, .int .i64 a0_2, .int .i64 a0_3], .agg #[.int .i64 a1_0, .int .i64 a1_1, .int .i64 a1_2, .int .i64 a1_3], .int .i64 a2, .agg #[.int .i64 a3_0, .int .i64 a3_1, .int .i64 a3_2, .int .i64 a3_3, .int .i64 a3_4], .agg #[.int .i64 a4_0, .int .i64 a4_1, .int .i64 a4_2, .int .i64 a4_3, .int .i64 a4_4], .int .i64 a5] W fun e w' => e = .returned (.bool true) ∧ Below W.heap.size W w' := by
  exact angeluslaw25_BoundGrows.calls 4 a0_0 a0_1 a0_2 a0_3 a1_0 a1_1 a1_2 a1_3 a2 a3_0 a3_1 a3_2 a3_3 a3_4 a4_0 a4_1 a4_2 a4_3 a4_4 a5 true ⟨rfl⟩ W (pure a0_0 a0_1 a0_2 a0_3 a1_0 a1_1 a1_2 a1_3 a2 a3_0 a3_1 a3_2 a3_3 a3_4 a4_0 a4_1 a4_2 a4_3 a4_4 a5 w2)
end Go.Proofs.Ytlklbcaoooeioaa.BoundGrowsW
