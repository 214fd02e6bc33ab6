/- A year has 365 days, one more in leap years; four hundred years have 146097. No condition. -/
import Derived.Test.YtobhjkephinhiacCivilRef
import Derived.Test.YtobhjkephinhiacCivilMath
namespace Go.Proofs.Ytobhjkephinhiac.CivilYearsW
open Go.RowKit Go.Proofs.Ytobhjkephinhiac.Bk Go.Proofs.Ytobhjkephinhiac.Rw Go.Proofs.Ytobhjkephinhiac.Ow Go.Proofs.Ytobhjkephinhiac.Kp Go.Proofs.Ytobhjkephinhiac.Str Go.Proofs.Ytobhjkephinhiac.Civil

set_option maxRecDepth 100000 in
set_option maxHeartbeats 2000000 in
set_option linter.unusedVariables false in
theorem walk (a0 : Int) (W : World) (w0 : (Lit.int .i64 a0).wf = true) :
    Calls Try.prog 5 #[.int .i64 a0] W fun e w' => e = .returned (.bool true) ∧ Below W.heap.size W w' := by
  clear w0
  go_enter Try.func5, Try.ntmps5
  go_wp2_with fail
  refine (alive_ok _).mono ?_
  rintro e w1 ⟨rfl, hb⟩
  have HW := Lib.hid hb
  clear hb
  by_cases hg : 1 ≤ a0 ∧ a0 ≤ 9998
  rotate_left
  · have HG := Lib.hid hg
    clear hg
    go_wp2_with fail
    all_goals first
      | (go_ret; exact ⟨rfl, HW.out⟩)
      | (refine absurd ?_ HG.out; omega)
  obtain ⟨g0, g1⟩ := hg
  have hyr := yr_bd a0 g0 (by omega)
  have hys := yr_succ a0 g0
  have hyc := yr_cent a0
  have N0 := Lib.hid (fun w => num_ok a0 1 1 w (gd11 a0 (by omega) (by omega)))
  have N1 := Lib.hid (fun w => num_ok (a0 + 1) 1 1 w (gd11 (a0 + 1) (by omega) (by omega)))
  have G0 := Lib.hid (fun w => good_ok a0 2 29 w)
  have L0 := Lib.hid (fun w => long_ok a0 w (by omega) (by omega))
  have N2 := Lib.hid (fun (h : a0 + 400 ≤ 9999) w => num_ok (a0 + 400) 1 1 w (gd11 (a0 + 400) (by omega) (by omega)))
  have N3 := Lib.hid (fun (h : ¬ a0 + 400 ≤ 9999) w => num_no (a0 + 400) 1 1 w (by unfold gd; exact decide_eq_false (by omega)))
  rw [nm11] at N0 N1 N2
  rw [hys] at N1
  rw [hyc] at N2
  rw [gd_feb a0 (by omega) (by omega)] at G0
  unfold date at N0 N1 N2 N3 G0
  clear hys hyc
  generalize yr a0 = Y at hyr N0 N1 N2
  cases hl : lp a0
  all_goals
    rw [hl] at N1 G0 L0
    simp only [if_true, if_false, Bool.false_eq_true] at N1
    have HL := Lib.hid hl
    clear hl
    go_wp2_with fail
    refine (N0.out _).mono ?_
    rintro e w2 ⟨rfl, hb⟩
    have HB2 := Lib.hid (HW.out.trans (hb.mono HW.out.size))
    clear hb
    go_wp2_with fail
    refine (N1.out _).mono ?_
    rintro e w3 ⟨rfl, hb⟩
    have HB3 := Lib.hid (HB2.out.trans (hb.mono HB2.out.size))
    clear hb
    go_wp2_with (first
      | (go_at_call 14; with_reducible refine Calls.mono (L0.out _) ?_; rintro e w' ⟨rfl, rfl⟩)
      | (go_at_call 15; with_reducible refine Calls.mono (G0.out _) ?_; rintro e w4 ⟨rfl, hb⟩; have HB4 := Lib.hid (HB3.out.trans (hb.mono HB3.out.size)); clear hb)
      | (go_at_call 13; fail))
    by_cases hc : a0 + 400 ≤ 9999
    · refine (N2.out (by omega) _).mono ?_
      rintro e w5 ⟨rfl, hb⟩
      have HB5 := Lib.hid (HB4.out.trans (hb.mono HB4.out.size))
      clear hb
      go_wp2
      go_ret
      refine ⟨?_, HB5.out⟩
      show Ending.returned (Value.bool (Y + 146097 - 719162 - (Y - 719162) == 146097)) = _
      rw [show Y + 146097 - 719162 - (Y - 719162) = 146097 by omega]
      rfl
    · refine (N3.out (by omega) _).mono ?_
      rintro e w5 ⟨rfl, hb⟩
      have HB5 := Lib.hid (HB4.out.trans (hb.mono HB4.out.size))
      clear hb
      go_wp2
      go_ret
      exact ⟨rfl, HB5.out⟩
end Go.Proofs.Ytobhjkephinhiac.CivilYearsW
