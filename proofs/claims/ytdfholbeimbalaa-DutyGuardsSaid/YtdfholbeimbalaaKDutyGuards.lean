/- Who is awake with one guard is with a greater one; within a round's steps just one is a node's own. No condition. -/
import Derived.Test.YtdfholbeimbalaaPDutyGuardsx2
import Derived.Test.YtdfholbeimbalaaLf
namespace Go.Proofs.Ytdfholbeimbalaa.DutyGuardsW
open Go.RowKit Go.Proofs.Ytdfholbeimbalaa.PDutyGuards Go.Proofs.YtdfholbeimbalaaW.PrintWords Go.Proofs.YtdfholbeimbalaaW.PrintLast Go.Proofs.YtdfholbeimbalaaW.PrintMore
theorem w64 {x : Int} (h0 : -9223372036854775808 ≤ x) (h1 : x ≤ 9223372036854775807) : wrap64 x = x := by unfold wrap64; omega

def good (r o w : Int) : Bool := decide (1 ≤ r ∧ r ≤ 64 ∧ 1 ≤ o ∧ o ≤ r ∧ 0 ≤ w ∧ w < r)
theorem good_true {r o w : Int} (h : good r o w = true) : 1 ≤ r ∧ r ≤ 64 ∧ 1 ≤ o ∧ o ≤ r ∧ 0 ≤ w ∧ w < r := of_decide_eq_true h

theorem good_is (r o w : Int) : duty_Plan_Good.f r o w = some (good r o w) := by
  unfold duty_Plan_Good.f good
  by_cases h1 : r ≥ 1
  · rw [if_pos h1]
    by_cases h2 : r ≤ 64
    · rw [if_pos h2]
      by_cases h3 : o ≥ 1
      · rw [if_pos h3]
        by_cases h4 : o ≤ r
        · rw [if_pos h4]
          by_cases h5 : w ≥ 0
          · rw [if_pos h5]; congr 1; rw [decide_eq_decide]; omega
          · rw [if_neg h5]; congr 1; symm; rw [decide_eq_false_iff_not]; omega
        · rw [if_neg h4]; congr 1; symm; rw [decide_eq_false_iff_not]; omega
      · rw [if_neg h3]; congr 1; symm; rw [decide_eq_false_iff_not]; omega
    · rw [if_neg h2]; congr 1; symm; rw [decide_eq_false_iff_not]; omega
  · rw [if_neg h1]; congr 1; symm; rw [decide_eq_false_iff_not]; omega

theorem tmod_is (a b : Int) (hb : 0 < b) : Int.tmod a b = a % b ∨ (Int.tmod a b = a % b - b ∧ a % b ≠ 0) := by
  rw [Int.tmod_eq_emod]
  by_cases h : 0 ≤ a ∨ b ∣ a
  · rw [if_pos h]; left; simp
  · rw [if_neg h]
    right
    refine ⟨by rw [Int.natAbs_of_nonneg (by omega)], fun h2 => h (.inr (Int.dvd_of_emod_eq_zero h2))⟩

theorem floor_is (a b : Int) (hb : 1 ≤ b) (hb2 : b ≤ 64000) : ∃ q, fix_Floor.f a b = some (q, a % b, true) := by
  unfold fix_Floor.f
  rw [if_neg (by omega), if_neg (by omega)]
  have h0 := Int.emod_nonneg a (show b ≠ 0 by omega)
  have h1 := Int.emod_lt_of_pos a (show 0 < b by omega)
  rcases tmod_is a b (by omega) with h | ⟨h, _⟩
  · rw [h, if_neg (by omega)]; exact ⟨_, rfl⟩
  · rw [h, if_pos (by omega), w64 (x := a % b - b + b) (by omega) (by omega), Int.sub_add_cancel]; exact ⟨_, rfl⟩

theorem ticks_is (r o w : Int) (h : good r o w = true) : duty_Plan_Ticks.f r o w = some (r * 1000) := by
  have := good_true h
  unfold duty_Plan_Ticks.f
  rw [w64 (by omega) (by omega)]

/-- Who is awake. -/
def awake (r o w t g : Int) : Bool := if good r o w = true ∧ 0 ≤ g then decide (t % (r * 1000) < o * 1000 + mn g (r * 1000) ∨ r * 1000 - mn g (r * 1000) ≤ t % (r * 1000)) else true

theorem awake_is (k : Nat) (r o w t g : Int) : duty_Plan_Awake.f (k + 1) r o w t g = some (awake r o w t g) := by
  unfold duty_Plan_Awake.f awake
  rw [good_is]
  simp only [Option.bind_some]
  by_cases h : good r o w = true
  · have hg := good_true h
    rw [if_pos h]
    by_cases h2 : 0 ≤ g
    · rw [if_pos ⟨h, h2⟩, decide_eq_false (by omega)]
      simp only [duty_Plan_Awake.j0, Bool.false_eq_true, if_false, ticks_is r o w h, Option.bind_some]
      obtain ⟨q, hq⟩ := floor_is t (r * 1000) (by omega) (by omega)
      rw [hq]
      simp only [Option.bind_some]
      have hm : 0 ≤ mn g (r * 1000) ∧ mn g (r * 1000) ≤ r * 1000 := by unfold mn; split <;> omega
      rw [w64 (x := o * 1000) (by omega) (by omega), w64 (x := o * 1000 + mn g (r * 1000)) (by omega) (by omega), w64 (by omega) (by omega)]
      by_cases h3 : t % (r * 1000) < o * 1000 + mn g (r * 1000)
      · rw [if_pos h3, decide_eq_true (.inl h3)]
      · rw [if_neg h3]; congr 1; rw [decide_eq_decide]; omega
    · rw [if_neg (by omega), decide_eq_true (by omega)]
      simp only [duty_Plan_Awake.j0, if_true]
  · rw [if_neg h, if_neg (fun h2 => h h2.1)]
    simp only [duty_Plan_Awake.j0, if_true]

def mine (r o w s : Int) : Bool := good r o w && decide (0 ≤ s) && (s % r == w)
theorem mine_is (r o w s : Int) : duty_Plan_Mine.f r o w s = some (mine r o w s) := by
  unfold duty_Plan_Mine.f mine
  rw [good_is]
  simp only [Option.bind_some]
  by_cases h : good r o w = true
  · have hg := good_true h
    rw [if_pos h, h]
    by_cases h2 : s ≥ 0
    · rw [if_pos h2, if_neg (by omega), Int.tmod_eq_emod_of_nonneg (by omega), decide_eq_true (by omega)]; rfl
    · rw [if_neg h2, decide_eq_false (by omega)]; rfl
  · rw [if_neg h]
    simp only [Bool.not_eq_true] at h
    rw [h]; rfl

theorem alive_is (k : Nat) : angeluslaw11_alive.f (k + 1) = some true := by
  unfold angeluslaw11_alive.f
  rw [awake_is, awake_is, awake_is, awake_is, mine_is]
  decide


theorem hit (s r w j : Int) (hw : 0 ≤ w) (hr : w < r) (hj : 0 ≤ j) (hjr : j < r) : (s + j) % r = w ↔ j = (w - s) % r := by
  constructor
  · intro h
    have h1 : (w - s) % r = ((s + j) - s) % r := by rw [← h, Int.sub_emod, Int.emod_emod, ← Int.sub_emod]
    rw [h1, show s + j - s = j by omega, Int.emod_eq_of_lt hj hjr]
  · intro h
    rw [h, Int.add_emod_emod, show s + (w - s) = w by omega, Int.emod_eq_of_lt hw hr]

theorem loop (r o w s : Int) (hg : good r o w = true) (h0 : 0 ≤ s) (hs : s ≤ 1125899906842624) (d : Nat) : ∀ (k : Nat) (i n : Int), 0 ≤ i → i ≤ r → r - i = d → d < k → n = (if i > (w - s) % r then 1 else 0) →
    angeluslaw11_DutyGuards.l0 k s n i r o w = some true := by
  have hp := good_true hg
  have hd0 := Int.emod_nonneg (w - s) (show r ≠ 0 by omega)
  have hd1 := Int.emod_lt_of_pos (w - s) (show 0 < r by omega)
  induction d with
  | zero =>
    intro k i n hi hir hd hk hn
    obtain ⟨k, rfl⟩ : ∃ m, k = m + 1 := ⟨k - 1, by omega⟩
    simp only [angeluslaw11_DutyGuards.l0]
    rw [if_neg (by omega), hn, if_pos (by omega)]
    rfl
  | succ d ih =>
    intro k i n hi hir hd hk hn
    obtain ⟨k, rfl⟩ : ∃ m, k = m + 1 := ⟨k - 1, by omega⟩
    simp only [angeluslaw11_DutyGuards.l0]
    have hh := hit s r w i hp.2.2.2.2.1 hp.2.2.2.2.2 hi (by omega)
    rw [if_pos (by omega), w64 (x := s + i) (by omega) (by omega), mine_is, w64 (x := i + 1) (by omega) (by omega)]
    simp only [Option.bind_some]
    have hm : mine r o w (s + i) = decide (i = (w - s) % r) := by
      unfold mine
      rw [hg, decide_eq_true (by omega)]
      simp only [Bool.true_and]
      rw [Bool.eq_iff_iff, beq_iff_eq, decide_eq_true_iff]
      exact hh
    rw [hm]
    have hn01 : n = 0 ∨ n = 1 := by rw [hn]; split <;> omega
    by_cases hc : i = (w - s) % r
    · rw [decide_eq_true hc, if_pos rfl]
      rw [if_neg (by omega)] at hn
      exact ih k (i + 1) (wrap64 (n + 1)) (by omega) (by omega) (by omega) (by omega) (by rw [if_pos (by omega), hn, w64 (by omega) (by omega)]; rfl)
    · rw [decide_eq_false hc, if_neg (by decide)]
      exact ih k (i + 1) n (by omega) (by omega) (by omega) (by omega) (by rw [hn]; split <;> split <;> omega)

theorem more (r o w t a b : Int) (ha : 0 ≤ a) (hb : a ≤ b) (h : awake r o w t a = true) : awake r o w t b = true := by
  unfold awake at h ⊢
  by_cases hg : good r o w = true
  · rw [if_pos ⟨hg, ha⟩] at h
    rw [if_pos ⟨hg, by omega⟩]
    have h2 := of_decide_eq_true h
    have hm : mn a (r * 1000) ≤ mn b (r * 1000) := by unfold mn; split <;> split <;> omega
    exact decide_eq_true (by omega)
  · rw [if_neg (fun h2 => hg h2.1)]

theorem pure (r o w s t a b : Int) : ∃ k, angeluslaw11_DutyGuards.f k r o w s t a b = some true := by
  refine ⟨200 + 1, ?_⟩
  have tail : angeluslaw11_DutyGuards.j0 (200 + 1) s false r o w = some true := by
    simp only [angeluslaw11_DutyGuards.j0, Bool.false_eq_true, if_false]
    rw [good_is]
    simp only [Option.bind_some]
    by_cases hg : good r o w = true
    · have hp := good_true hg
      rw [if_pos hg]
      by_cases h1 : s < 0
      · rw [if_pos h1]; rfl
      · rw [if_neg h1]
        by_cases h2 : s > 1125899906842624
        · rw [decide_eq_true h2]; rfl
        · rw [decide_eq_false h2]
          simp only [angeluslaw11_DutyGuards.j1, Bool.false_eq_true, if_false]
          have hd0 := Int.emod_nonneg (w - s) (show r ≠ 0 by omega)
          exact loop r o w s hg (by omega) (by omega) r.toNat _ 0 0 (by omega) (by omega) (by omega) (by omega) (by rw [if_neg (by omega)])
    · rw [if_neg hg]; rfl
  unfold angeluslaw11_DutyGuards.f
  rw [alive_is]
  simp only [Option.bind_some, if_true]
  by_cases h1 : a ≥ 0
  · rw [if_pos h1]
    by_cases h2 : b ≥ a
    · rw [if_pos h2, awake_is, awake_is]
      simp only [Option.bind_some]
      by_cases h3 : awake r o w t a = true
      · rw [if_pos h3, more r o w t a b h1 h2 h3]; exact tail
      · rw [if_neg h3]; exact tail
    · rw [if_neg h2]; exact tail
  · rw [if_neg h1]; exact tail

theorem walk (a0_0 : Int) (a0_1 : Int) (a0_2 : Int) (a1 : Int) (a2 : Int) (a3 : Int) (a4 : Int) (W : World) (_w0_0 : (Lit.int .i64 a0_0).wf = true) (_w0_1 : (Lit.int .i64 a0_1).wf = true) (_w0_2 : (Lit.int .i64 a0_2).wf = true) (_w1 : (Lit.int .i64 a1).wf = true) (_w2 : (Lit.int .i64 a2).wf = true) (_w3 : (Lit.int .i64 a3).wf = true) (_w4 : (Lit.int .i64 a4).wf = true) :
    Calls Try.prog 3 #[.agg #[.int .i64 a0_0, .int .i64 a0_1, .int .i64 a0_2], .int .i64 a1, .int .i64 a2, .int .i64 a3, .int .i64 a4] W fun e w' => e = .returned (.bool true) ∧ Below W.heap.size W w' := by
  obtain ⟨k, h⟩ := pure a0_0 a0_1 a0_2 a1 a2 a3 a4
  exact angeluslaw11_DutyGuards.calls k a0_0 a0_1 a0_2 a1 a2 a3 a4 true W h
end Go.Proofs.Ytdfholbeimbalaa.DutyGuardsW
