/- Where the other clock is ahead by the same all the time, and both ways take as long, Offset and Delay are just these; where the ways differ the offset is wrong by no more than half of that. No condition. -/
import Derived.Test.YthnnejflgbminabPr3
import Derived.Test.YthnnejflgbminabLf
namespace Go.Proofs.Ythnnejflgbminab.PairRightW
open Go.RowKit Go.Proofs.Ythnnejflgbminab.Bk Go.Proofs.Ythnnejflgbminab.Rw Go.Proofs.Ythnnejflgbminab.Ow Go.Proofs.Ythnnejflgbminab.Kp Go.Proofs.Ythnnejflgbminab.Sq Go.Proofs.Ythnnejflgbminab.Ck Go.Proofs.Ythnnejflgbminab.Tm Go.Proofs.Ythnnejflgbminab.Pr

set_option maxHeartbeats 1000000 in
theorem early (a0 a1 a2 a3 a4 : Int) (W : World) (h : a0 < 0 ∨ 1099511627776 < a0 ∨ a1 < -1099511627776 ∨ 1099511627776 < a1 ∨ a2 < 0 ∨ 1099511627776 < a2 ∨ a3 < 0 ∨ 1099511627776 < a3 ∨ a4 < 0 ∨ 1099511627776 < a4 ∨ a0 + a2 + a1 < 0) :
    Calls Try.prog 4 #[.int .i64 a0, .int .i64 a1, .int .i64 a2, .int .i64 a3, .int .i64 a4] W fun e w' => e = .returned (.bool true) ∧ Below W.heap.size W w' := by
  by_cases h0 : a0 < 0
  · clear h
    go_enter Try.func4, Try.ntmps4
    go_wp2_with (go_at_call 8; refine (alive_ok _).mono ?_; rintro e w1 ⟨rfl, hb⟩; have HB := Lib.hid hb; clear hb)
    go_ret
    exact ⟨rfl, HB.out⟩
  by_cases h1 : 1099511627776 < a0
  · clear h
    go_enter Try.func4, Try.ntmps4
    go_wp2_with (go_at_call 8; refine (alive_ok _).mono ?_; rintro e w1 ⟨rfl, hb⟩; have HB := Lib.hid hb; clear hb)
    go_ret
    exact ⟨rfl, HB.out⟩
  by_cases h2 : a1 < -1099511627776
  · clear h
    go_enter Try.func4, Try.ntmps4
    go_wp2_with (go_at_call 8; refine (alive_ok _).mono ?_; rintro e w1 ⟨rfl, hb⟩; have HB := Lib.hid hb; clear hb)
    go_ret
    exact ⟨rfl, HB.out⟩
  by_cases h3 : 1099511627776 < a1
  · clear h
    go_enter Try.func4, Try.ntmps4
    go_wp2_with (go_at_call 8; refine (alive_ok _).mono ?_; rintro e w1 ⟨rfl, hb⟩; have HB := Lib.hid hb; clear hb)
    go_ret
    exact ⟨rfl, HB.out⟩
  by_cases h4 : a2 < 0
  · clear h
    go_enter Try.func4, Try.ntmps4
    go_wp2_with (go_at_call 8; refine (alive_ok _).mono ?_; rintro e w1 ⟨rfl, hb⟩; have HB := Lib.hid hb; clear hb)
    go_ret
    exact ⟨rfl, HB.out⟩
  by_cases h5 : 1099511627776 < a2
  · clear h
    go_enter Try.func4, Try.ntmps4
    go_wp2_with (go_at_call 8; refine (alive_ok _).mono ?_; rintro e w1 ⟨rfl, hb⟩; have HB := Lib.hid hb; clear hb)
    go_ret
    exact ⟨rfl, HB.out⟩
  by_cases h6 : a3 < 0
  · clear h
    go_enter Try.func4, Try.ntmps4
    go_wp2_with (go_at_call 8; refine (alive_ok _).mono ?_; rintro e w1 ⟨rfl, hb⟩; have HB := Lib.hid hb; clear hb)
    go_ret
    exact ⟨rfl, HB.out⟩
  by_cases h7 : 1099511627776 < a3
  · clear h
    go_enter Try.func4, Try.ntmps4
    go_wp2_with (go_at_call 8; refine (alive_ok _).mono ?_; rintro e w1 ⟨rfl, hb⟩; have HB := Lib.hid hb; clear hb)
    go_ret
    exact ⟨rfl, HB.out⟩
  by_cases h8 : a4 < 0
  · clear h
    go_enter Try.func4, Try.ntmps4
    go_wp2_with (go_at_call 8; refine (alive_ok _).mono ?_; rintro e w1 ⟨rfl, hb⟩; have HB := Lib.hid hb; clear hb)
    go_ret
    exact ⟨rfl, HB.out⟩
  by_cases h9 : 1099511627776 < a4
  · clear h
    go_enter Try.func4, Try.ntmps4
    go_wp2_with (go_at_call 8; refine (alive_ok _).mono ?_; rintro e w1 ⟨rfl, hb⟩; have HB := Lib.hid hb; clear hb)
    go_ret
    exact ⟨rfl, HB.out⟩
  have h10 : a0 + a2 + a1 < 0 := by omega
  clear h
  go_enter Try.func4, Try.ntmps4
  go_wp2_with (go_at_call 8; refine (alive_ok _).mono ?_; rintro e w1 ⟨rfl, hb⟩; have HB := Lib.hid hb; clear hb)
  go_ret
  exact ⟨rfl, HB.out⟩

set_option maxRecDepth 100000 in
set_option maxHeartbeats 2000000 in
set_option linter.unusedVariables false in
theorem walk (a0 : Int) (a1 : Int) (a2 : Int) (a3 : Int) (a4 : Int) (W : World) (w0 : (Lit.int .i64 a0).wf = true) (w1 : (Lit.int .i64 a1).wf = true) (w2 : (Lit.int .i64 a2).wf = true) (w3 : (Lit.int .i64 a3).wf = true) (w4 : (Lit.int .i64 a4).wf = true) :
    Calls Try.prog 4 #[.int .i64 a0, .int .i64 a1, .int .i64 a2, .int .i64 a3, .int .i64 a4] W fun e w' => e = .returned (.bool true) ∧ Below W.heap.size W w' := by
  clear w0 w1 w2 w3 w4
  by_cases hin : a0 < 0 ∨ 1099511627776 < a0 ∨ a1 < -1099511627776 ∨ 1099511627776 < a1 ∨ a2 < 0 ∨ 1099511627776 < a2 ∨ a3 < 0 ∨ 1099511627776 < a3 ∨ a4 < 0 ∨ 1099511627776 < a4 ∨ a0 + a2 + a1 < 0
  · exact early a0 a1 a2 a3 a4 W hin
  have n0 : ¬ (a0 < 0) := fun h => hin (by omega)
  have n1 : ¬ (1099511627776 < a0) := fun h => hin (by omega)
  have n2 : ¬ (a1 < -1099511627776) := fun h => hin (by omega)
  have n3 : ¬ (1099511627776 < a1) := fun h => hin (by omega)
  have n4 : ¬ (a2 < 0) := fun h => hin (by omega)
  have n5 : ¬ (1099511627776 < a2) := fun h => hin (by omega)
  have n6 : ¬ (a3 < 0) := fun h => hin (by omega)
  have n7 : ¬ (1099511627776 < a3) := fun h => hin (by omega)
  have n8 : ¬ (a4 < 0) := fun h => hin (by omega)
  have n9 : ¬ (1099511627776 < a4) := fun h => hin (by omega)
  have n10 : ¬ (a0 + a2 + a1 < 0) := fun h => hin (by omega)
  clear hin
  have hg : tg a0 (a0 + a2 + a1) (a0 + a2 + a3 + a1) (a0 + a2 + a3 + a4) = true := tg_iff.2 (by omega)
  obtain ⟨o, ho⟩ : ∃ o, offs a0 (a0 + a2 + a1) (a0 + a2 + a3 + a1) (a0 + a2 + a3 + a4) = o := ⟨_, rfl⟩
  obtain ⟨d, hd⟩ : ∃ d, dely a0 (a0 + a2 + a1) (a0 + a2 + a3 + a1) (a0 + a2 + a3 + a4) = d := ⟨_, rfl⟩
  have HO := Lib.hid (fun w => ho ▸ offset_good a0 (a0 + a2 + a1) (a0 + a2 + a3 + a1) (a0 + a2 + a3 + a4) w hg)
  have HD := Lib.hid (fun w => hd ▸ delay_good a0 (a0 + a2 + a1) (a0 + a2 + a3 + a1) (a0 + a2 + a3 + a4) w hg)
  have hG := fun w => good_ok a0 (a0 + a2 + a1) (a0 + a2 + a3 + a1) (a0 + a2 + a3 + a4) w
  rw [hg] at hG
  have HG := Lib.hid hG
  unfold offs at ho
  unfold dely at hd
  have o1 : 2 * (o - a1) ≤ a2 - a4 := by omega
  have o2 : a2 - a4 - 1 ≤ 2 * (o - a1) := by omega
  have o3 : -8796093022208 ≤ o := by omega
  have o4 : o ≤ 8796093022208 := by omega
  have hd2 : d = (a2 + a4) / 2 := by omega
  clear hG hg ho hd
  by_cases he : a2 = a4
  · have h1 : o = a1 := by omega
    have h2 : d = a2 := by omega
    subst h1 h2
    subst he
    clear hd2
    go_enter Try.func4, Try.ntmps4
    go_wp2_with (first
      | (go_at_call 8; (with_reducible refine Calls.mono (alive_ok _) ?_); rintro e w1 ⟨rfl, hb⟩; have HB1 := Lib.hid hb; have HB2 := Lib.hid (fun o => hb.alloc hb.size o); have HN := Lib.hid (fun cs => Blk.new w1 23 cs); clear hb)
      | (go_at_call 11; (with_reducible refine Calls.mono (HO.out _) ?_); rintro e w6 ⟨rfl, hb⟩; have HT6 := Lib.hid ((HN.out _).keeps hb); have HB6 := Lib.hid ((HB2.out _).trans (hb.mono (HB2.out _).size)); have hc := cells4 HT6.out; obtain ⟨t0, t1, t2, t3⟩ := hc; clear hb)
      | (go_at_call 12; (with_reducible refine Calls.mono (HD.out _) ?_); rintro e w7 ⟨rfl, hb⟩; clear t0 t1 t2 t3; have HT6 := Lib.hid (HT6.out.keeps hb); have HB6 := Lib.hid (HB6.out.trans (hb.mono HB6.out.size)); have hc := cells4 HT6.out; obtain ⟨t0, t1, t2, t3⟩ := hc; clear hb)
      | (go_at_call 10; (with_reducible refine Calls.mono (HG.out _) ?_); rintro e w5 ⟨rfl, hb⟩; have HB7 := Lib.hid (HB6.out.trans (hb.mono HB6.out.size)); clear hb))
    go_ret
    exact ⟨by first | rfl | (simp; omega), HB7.out⟩
  · have he2 : (a2 == a4) = false := by simpa using he
    clear he hd2
    go_enter Try.func4, Try.ntmps4
    go_wp2_with (first
      | (go_at_call 8; (with_reducible refine Calls.mono (alive_ok _) ?_); rintro e w1 ⟨rfl, hb⟩; have HB1 := Lib.hid hb; have HB2 := Lib.hid (fun o => hb.alloc hb.size o); have HN := Lib.hid (fun cs => Blk.new w1 23 cs); clear hb)
      | (go_at_call 11; (with_reducible refine Calls.mono (HO.out _) ?_); rintro e w6 ⟨rfl, hb⟩; have HT6 := Lib.hid ((HN.out _).keeps hb); have HB6 := Lib.hid ((HB2.out _).trans (hb.mono (HB2.out _).size)); have hc := cells4 HT6.out; obtain ⟨t0, t1, t2, t3⟩ := hc; clear hb)
      | (go_at_call 12; (with_reducible refine Calls.mono (HD.out _) ?_); rintro e w7 ⟨rfl, hb⟩; clear t0 t1 t2 t3; have HT6 := Lib.hid (HT6.out.keeps hb); have HB6 := Lib.hid (HB6.out.trans (hb.mono HB6.out.size)); have hc := cells4 HT6.out; obtain ⟨t0, t1, t2, t3⟩ := hc; clear hb)
      | (go_at_call 10; (with_reducible refine Calls.mono (HG.out _) ?_); rintro e w5 ⟨rfl, hb⟩; have HB7 := Lib.hid (HB6.out.trans (hb.mono HB6.out.size)); clear hb))
    go_ret
    exact ⟨by first | rfl | (simp; omega), HB7.out⟩
end Go.Proofs.Ythnnejflgbminab.PairRightW
