/- Good, Mine, Awake, Rest and Ticks answer what the document says, of all plans and numbers. No condition. -/
import Derived.Test.YtdfholbeimbalaaQDutyAnswersx3
import Derived.Test.YtdfholbeimbalaaLf
namespace Go.Proofs.Ytdfholbeimbalaa.DutyAnswersW
open Go.RowKit Go.Proofs.Ytdfholbeimbalaa.QDutyAnswers Go.Proofs.YtdfholbeimbalaaW.PrintWords Go.Proofs.YtdfholbeimbalaaW.PrintLast Go.Proofs.YtdfholbeimbalaaW.PrintMore
theorem w64 {x : Int} (h0 : -9223372036854775808 ≤ x) (h1 : x ≤ 9223372036854775807) : wrap64 x = x := by unfold wrap64; omega

def good (r o w : Int) : Bool := decide (1 ≤ r ∧ r ≤ 64 ∧ 1 ≤ o ∧ o ≤ r ∧ 0 ≤ w ∧ w < r)
theorem good_true {r o w : Int} (h : good r o w = true) : 1 ≤ r ∧ r ≤ 64 ∧ 1 ≤ o ∧ o ≤ r ∧ 0 ≤ w ∧ w < r := of_decide_eq_true h

theorem good_is (r o w : Int) : duty_Plan_Good.f r o w = some (good r o w) := by
  unfold duty_Plan_Good.f good
  by_cases h1 : r ≥ 1
  · rw [if_pos h1]
    by_cases h2 : r ≤ 64
    · rw [if_pos h2]
      by_cases h3 : o ≥ 1
      · rw [if_pos h3]
        by_cases h4 : o ≤ r
        · rw [if_pos h4]
          by_cases h5 : w ≥ 0
          · rw [if_pos h5]; congr 1; rw [decide_eq_decide]; omega
          · rw [if_neg h5]; congr 1; symm; rw [decide_eq_false_iff_not]; omega
        · rw [if_neg h4]; congr 1; symm; rw [decide_eq_false_iff_not]; omega
      · rw [if_neg h3]; congr 1; symm; rw [decide_eq_false_iff_not]; omega
    · rw [if_neg h2]; congr 1; symm; rw [decide_eq_false_iff_not]; omega
  · rw [if_neg h1]; congr 1; symm; rw [decide_eq_false_iff_not]; omega

theorem tmod_is (a b : Int) (hb : 0 < b) : Int.tmod a b = a % b ∨ (Int.tmod a b = a % b - b ∧ a % b ≠ 0) := by
  rw [Int.tmod_eq_emod]
  by_cases h : 0 ≤ a ∨ b ∣ a
  · rw [if_pos h]; left; simp
  · rw [if_neg h]
    right
    refine ⟨by rw [Int.natAbs_of_nonneg (by omega)], fun h2 => h (.inr (Int.dvd_of_emod_eq_zero h2))⟩

theorem floor_is (a b : Int) (hb : 1 ≤ b) (hb2 : b ≤ 64000) : ∃ q, fix_Floor.f a b = some (q, a % b, true) := by
  unfold fix_Floor.f
  rw [if_neg (by omega), if_neg (by omega)]
  have h0 := Int.emod_nonneg a (show b ≠ 0 by omega)
  have h1 := Int.emod_lt_of_pos a (show 0 < b by omega)
  rcases tmod_is a b (by omega) with h | ⟨h, _⟩
  · rw [h, if_neg (by omega)]; exact ⟨_, rfl⟩
  · rw [h, if_pos (by omega), w64 (x := a % b - b + b) (by omega) (by omega), Int.sub_add_cancel]; exact ⟨_, rfl⟩

theorem ticks_is (r o w : Int) (h : good r o w = true) : duty_Plan_Ticks.f r o w = some (r * 1000) := by
  have := good_true h
  unfold duty_Plan_Ticks.f
  rw [w64 (by omega) (by omega)]

/-- Who is awake. -/
def awake (r o w t g : Int) : Bool := if good r o w = true ∧ 0 ≤ g then decide (t % (r * 1000) < o * 1000 + mn g (r * 1000) ∨ r * 1000 - mn g (r * 1000) ≤ t % (r * 1000)) else true

theorem awake_is (k : Nat) (r o w t g : Int) : duty_Plan_Awake.f (k + 1) r o w t g = some (awake r o w t g) := by
  unfold duty_Plan_Awake.f awake
  rw [good_is]
  simp only [Option.bind_some]
  by_cases h : good r o w = true
  · have hg := good_true h
    rw [if_pos h]
    by_cases h2 : 0 ≤ g
    · rw [if_pos ⟨h, h2⟩, decide_eq_false (by omega)]
      simp only [duty_Plan_Awake.j0, Bool.false_eq_true, if_false, ticks_is r o w h, Option.bind_some]
      obtain ⟨q, hq⟩ := floor_is t (r * 1000) (by omega) (by omega)
      rw [hq]
      simp only [Option.bind_some]
      have hm : 0 ≤ mn g (r * 1000) ∧ mn g (r * 1000) ≤ r * 1000 := by unfold mn; split <;> omega
      rw [w64 (x := o * 1000) (by omega) (by omega), w64 (x := o * 1000 + mn g (r * 1000)) (by omega) (by omega), w64 (by omega) (by omega)]
      by_cases h3 : t % (r * 1000) < o * 1000 + mn g (r * 1000)
      · rw [if_pos h3, decide_eq_true (.inl h3)]
      · rw [if_neg h3]; congr 1; rw [decide_eq_decide]; omega
    · rw [if_neg (by omega), decide_eq_true (by omega)]
      simp only [duty_Plan_Awake.j0, if_true]
  · rw [if_neg h, if_neg (fun h2 => h h2.1)]
    simp only [duty_Plan_Awake.j0, if_true]

def mine (r o w s : Int) : Bool := good r o w && decide (0 ≤ s) && (s % r == w)
theorem mine_is (r o w s : Int) : duty_Plan_Mine.f r o w s = some (mine r o w s) := by
  unfold duty_Plan_Mine.f mine
  rw [good_is]
  simp only [Option.bind_some]
  by_cases h : good r o w = true
  · have hg := good_true h
    rw [if_pos h, h]
    by_cases h2 : s ≥ 0
    · rw [if_pos h2, if_neg (by omega), Int.tmod_eq_emod_of_nonneg (by omega), decide_eq_true (by omega)]; rfl
    · rw [if_neg h2, decide_eq_false (by omega)]; rfl
  · rw [if_neg h]
    simp only [Bool.not_eq_true] at h
    rw [h]; rfl

theorem alive_is (k : Nat) : angeluslaw11_alive.f (k + 1) = some true := by
  unfold angeluslaw11_alive.f
  rw [awake_is, awake_is, awake_is, awake_is, mine_is]
  decide


def rest (r o w t : Int) : Int := if good r o w = true then (if t % (r * 1000) < o * 1000 then 0 else r * 1000 - t % (r * 1000)) else 0
theorem rest_is (r o w t : Int) : duty_Plan_Rest.f r o w t = some (rest r o w t) := by
  unfold duty_Plan_Rest.f rest
  rw [good_is]
  simp only [Option.bind_some]
  by_cases h : good r o w = true
  · have hg := good_true h
    rw [if_pos h, if_pos h, ticks_is r o w h]
    simp only [Option.bind_some]
    obtain ⟨q, hq⟩ := floor_is t (r * 1000) (by omega) (by omega)
    rw [hq]
    simp only [Option.bind_some]
    have h0 := Int.emod_nonneg t (show r * 1000 ≠ 0 by omega)
    have h1 := Int.emod_lt_of_pos t (show 0 < r * 1000 by omega)
    rw [w64 (x := o * 1000) (by omega) (by omega), w64 (by omega) (by omega)]
    split <;> rfl
  · rw [if_neg h, if_neg h]


theorem rgood_is (r o w : Int) : angelusref11_Good.f r o w = some (good r o w) := good_is r o w

theorem phase_is (r o w t : Int) (hg : good r o w = true) : angelusref11_Phase.f r o w t = some (t % (r * 1000)) := by
  have hp := good_true hg
  unfold angelusref11_Phase.f
  rw [w64 (x := r * 1000) (by omega) (by omega), if_neg (by omega)]
  have e0 := Int.emod_nonneg t (show r * 1000 ≠ 0 by omega)
  have e1 := Int.emod_lt_of_pos t (show 0 < r * 1000 by omega)
  rcases tmod_is t (r * 1000) (by omega) with h | ⟨h, _⟩
  · rw [h, w64 (by omega) (by omega), Int.tmod_eq_emod_of_nonneg (by omega), Int.add_emod_right, Int.emod_emod]
  · rw [h, Int.sub_add_cancel, w64 (by omega) (by omega), Int.tmod_eq_emod_of_nonneg (by omega), Int.emod_emod]

theorem rawake_is (r o w t g : Int) : angelusref11_Awake.f r o w t g = some (awake r o w t g) := by
  unfold angelusref11_Awake.f awake
  rw [rgood_is]
  simp only [Option.bind_some]
  by_cases hg : good r o w = true
  · have hp := good_true hg
    rw [if_pos hg]
    by_cases h2 : g < 0
    · rw [if_pos h2, if_neg (by omega)]
    · rw [if_neg h2, if_pos (show good r o w = true ∧ 0 ≤ g from ⟨hg, by omega⟩), w64 (x := r * 1000) (by omega) (by omega)]
      have e0 := Int.emod_nonneg t (show r * 1000 ≠ 0 by omega)
      have e1 := Int.emod_lt_of_pos t (show 0 < r * 1000 by omega)
      by_cases h3 : g ≥ r * 1000
      · rw [if_pos h3, decide_eq_true]
        have hm : mn g (r * 1000) = r * 1000 := by unfold mn; split <;> omega
        rw [hm]; omega
      · have hm : mn g (r * 1000) = g := by unfold mn; split <;> omega
        rw [if_neg h3, phase_is r o w t hg, hm]
        simp only [Option.bind_some]
        rw [w64 (x := o * 1000) (by omega) (by omega), w64 (x := o * 1000 + g) (by omega) (by omega), w64 (by omega) (by omega)]
        by_cases h4 : t % (r * 1000) < o * 1000 + g
        · rw [if_pos h4, decide_eq_true (.inl h4)]
        · rw [if_neg h4]; congr 1; rw [decide_eq_decide]; omega
  · rw [if_neg hg, if_neg (fun h2 => hg h2.1)]

theorem pure (r o w s t g : Int) : ∃ k, angeluslaw11_DutyAnswers.f k r o w s t g = some true := by
  refine ⟨1 + 1, ?_⟩
  unfold angeluslaw11_DutyAnswers.f
  rw [alive_is, rgood_is, good_is]
  simp only [Option.bind_some, if_true, bne_self_eq_false, Bool.false_eq_true, if_false]
  rw [awake_is, rawake_is]
  simp only [Option.bind_some, bne_self_eq_false, angeluslaw11_DutyAnswers.j0, Bool.false_eq_true, if_false]
  rw [mine_is, rest_is]
  simp only [Option.bind_some]
  by_cases hg : good r o w = true
  · have hp := good_true hg
    have e0 := Int.emod_nonneg t (show r * 1000 ≠ 0 by omega)
    have e1 := Int.emod_lt_of_pos t (show 0 < r * 1000 by omega)
    rw [if_pos hg, phase_is r o w t hg]
    simp only [Option.bind_some]
    rw [ticks_is r o w hg, w64 (x := o * 1000) (by omega) (by omega), w64 (x := r * 1000) (by omega) (by omega)]
    simp only [Option.bind_some]
    rw [w64 (x := r * 1000 - t % (r * 1000)) (by omega) (by omega)]
    have hm : mine r o w s = (decide (0 ≤ s) && (s % r == w)) := by unfold mine; rw [hg]; rfl
    rw [hm]
    by_cases h1 : t % (r * 1000) ≥ o * 1000
    · rw [if_pos h1]
      have hr : rest r o w t = r * 1000 - t % (r * 1000) := by unfold rest; rw [if_pos hg, if_neg (by omega)]
      rw [hr]
      by_cases h2 : s ≥ 0
      · rw [if_pos h2, if_neg (by omega), Int.tmod_eq_emod_of_nonneg (by omega), decide_eq_true (by omega)]
        simp
      · rw [if_neg h2, decide_eq_false (by omega)]
        simp
    · rw [if_neg h1]
      have hr : rest r o w t = 0 := by unfold rest; rw [if_pos hg, if_pos (by omega)]
      rw [hr]
      by_cases h2 : s ≥ 0
      · rw [if_pos h2, if_neg (by omega), Int.tmod_eq_emod_of_nonneg (by omega), decide_eq_true (by omega)]
        simp
      · rw [if_neg h2, decide_eq_false (by omega)]
        simp
  · rw [if_neg hg]
    simp only [Bool.not_eq_true] at hg
    have hm : mine r o w s = false := by unfold mine; rw [hg]; rfl
    have hr : rest r o w t = 0 := by unfold rest; rw [hg]; rfl
    rw [hm, hr]
    simp

theorem walk (a0_0 : Int) (a0_1 : Int) (a0_2 : Int) (a1 : Int) (a2 : Int) (a3 : Int) (W : World) (_w0_0 : (Lit.int .i64 a0_0).wf = true) (_w0_1 : (Lit.int .i64 a0_1).wf = true) (_w0_2 : (Lit.int .i64 a0_2).wf = true) (_w1 : (Lit.int .i64 a1).wf = true) (_w2 : (Lit.int .i64 a2).wf = true) (_w3 : (Lit.int .i64 a3).wf = true) :
    Calls Try.prog 4 #[.agg #[.int .i64 a0_0, .int .i64 a0_1, .int .i64 a0_2], .int .i64 a1, .int .i64 a2, .int .i64 a3] W fun e w' => e = .returned (.bool true) ∧ Below W.heap.size W w' := by
  obtain ⟨k, h⟩ := pure a0_0 a0_1 a0_2 a1 a2 a3
  exact angeluslaw11_DutyAnswers.calls k a0_0 a0_1 a0_2 a1 a2 a3 true W h
end Go.Proofs.Ytdfholbeimbalaa.DutyAnswersW
