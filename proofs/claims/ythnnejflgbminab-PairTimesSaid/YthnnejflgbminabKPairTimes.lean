/- Good, Offset and Delay answer what the document says, of all times. No condition. -/
import Derived.Test.YthnnejflgbminabPr3
import Derived.Test.YthnnejflgbminabLf
namespace Go.Proofs.Ythnnejflgbminab.PairTimesW
open Go.RowKit Go.Proofs.Ythnnejflgbminab.Bk Go.Proofs.Ythnnejflgbminab.Rw Go.Proofs.Ythnnejflgbminab.Ow Go.Proofs.Ythnnejflgbminab.Kp Go.Proofs.Ythnnejflgbminab.Sq Go.Proofs.Ythnnejflgbminab.Ck Go.Proofs.Ythnnejflgbminab.Tm Go.Proofs.Ythnnejflgbminab.Pr

set_option maxRecDepth 100000 in
set_option maxHeartbeats 1000000 in
set_option linter.unusedVariables false in
theorem walk (a0_0 : Int) (a0_1 : Int) (a0_2 : Int) (a0_3 : Int) (W : World) (w0_0 : (Lit.int .i64 a0_0).wf = true) (w0_1 : (Lit.int .i64 a0_1).wf = true) (w0_2 : (Lit.int .i64 a0_2).wf = true) (w0_3 : (Lit.int .i64 a0_3).wf = true) :
    Calls Try.prog 3 #[.agg #[.int .i64 a0_0, .int .i64 a0_1, .int .i64 a0_2, .int .i64 a0_3]] W fun e w' => e = .returned (.bool true) ∧ Below W.heap.size W w' := by
  have HT := Lib.hid (Blk.new W 23 #[.int .i64 a0_0, .int .i64 a0_1, .int .i64 a0_2, .int .i64 a0_3])
  have HB := Lib.hid ((Below.refl _ W).alloc (Nat.le_refl _) (.cells #[.int .i64 a0_0, .int .i64 a0_1, .int .i64 a0_2, .int .i64 a0_3] 23))
  have hG := fun w => good_ok a0_0 a0_1 a0_2 a0_3 w
  have hR := fun w => rgood_ok a0_0 a0_1 a0_2 a0_3 w
  by_cases hg : tg a0_0 a0_1 a0_2 a0_3 = true
  rotate_left
  · have hg2 : tg a0_0 a0_1 a0_2 a0_3 = false := by simpa using hg
    have HO := Lib.hid (fun w => offset_bad a0_0 a0_1 a0_2 a0_3 w hg2)
    have HD := Lib.hid (fun w => delay_bad a0_0 a0_1 a0_2 a0_3 w hg2)
    rw [hg2] at hG hR
    have HG := Lib.hid hG
    have HR := Lib.hid hR
    clear hG hR hg hg2
    go_enter Try.func3, Try.ntmps3
    go_wp2_with (first
      | (go_at_call 8; (with_reducible refine Calls.mono (alive_ok _) ?_); rintro e w1 ⟨rfl, hb⟩; have HT1 := Lib.hid (HT.out.keeps hb); have HB1 := Lib.hid (HB.out.trans (hb.mono HB.out.size)); have hc := cells4 HT1.out; obtain ⟨t0, t1, t2, t3⟩ := hc; clear hb)
      | (go_at_call 9; (with_reducible refine Calls.mono (HR.out _) ?_); rintro e w2 ⟨rfl, rfl⟩)
      | (go_at_call 10; (with_reducible refine Calls.mono (HG.out _) ?_); rintro e w5 ⟨rfl, hb⟩; clear t0 t1 t2 t3; have HT5 := Lib.hid (HT1.out.keeps hb); have HB5 := Lib.hid (HB1.out.trans (hb.mono HB1.out.size)); have hc := cells4 HT5.out; obtain ⟨t0, t1, t2, t3⟩ := hc; clear hb)
      | (go_at_call 11; (with_reducible refine Calls.mono (HO.out _) ?_); rintro e w6 ⟨rfl, hb⟩; clear t0 t1 t2 t3; have HT6 := Lib.hid (HT5.out.keeps hb); have HB6 := Lib.hid (HB5.out.trans (hb.mono HB5.out.size)); have hc := cells4 HT6.out; obtain ⟨t0, t1, t2, t3⟩ := hc; clear hb)
      | (go_at_call 12; (with_reducible refine Calls.mono (HD.out _) ?_); rintro e w7 ⟨rfl, hb⟩; have HB7 := Lib.hid (HB6.out.trans (hb.mono HB6.out.size)); clear hb))
    go_ret
    exact ⟨rfl, HB7.out⟩
  · have HO := Lib.hid (fun w => offset_good a0_0 a0_1 a0_2 a0_3 w hg)
    have HD := Lib.hid (fun w => delay_good a0_0 a0_1 a0_2 a0_3 w hg)
    have HRO := Lib.hid (fun w => roffset_ok a0_0 a0_1 a0_2 a0_3 w hg)
    have HRD := Lib.hid (fun w => rdelay_ok a0_0 a0_1 a0_2 a0_3 w hg)
    rw [hg] at hG hR
    have HG := Lib.hid hG
    have HR := Lib.hid hR
    clear hG hR hg
    go_enter Try.func3, Try.ntmps3
    go_wp2_with (first
      | (go_at_call 8; (with_reducible refine Calls.mono (alive_ok _) ?_); rintro e w1 ⟨rfl, hb⟩; have HT1 := Lib.hid (HT.out.keeps hb); have HB1 := Lib.hid (HB.out.trans (hb.mono HB.out.size)); have hc := cells4 HT1.out; obtain ⟨t0, t1, t2, t3⟩ := hc; clear hb)
      | (go_at_call 9; (with_reducible refine Calls.mono (HR.out _) ?_); rintro e w2 ⟨rfl, rfl⟩)
      | (go_at_call 10; (with_reducible refine Calls.mono (HG.out _) ?_); rintro e w5 ⟨rfl, hb⟩; clear t0 t1 t2 t3; have HT5 := Lib.hid (HT1.out.keeps hb); have HB5 := Lib.hid (HB1.out.trans (hb.mono HB1.out.size)); clear hb))
    have HT := Lib.hid HT5.out.drew
    have HB := Lib.hid (below_drew HB5.out)
    refine wp_region_seq [(0, true), (2, true), (3, true), (4, true), (5, true), (6, true), (7, true), (8, true), (9, true), (1, false), (10, false), (11, true), (12, true), (13, true), (15, true), (16, true), (17, true), (18, true), (19, true), (20, true), (21, true), (22, true), (14, false), (23, false), (24, true), (25, true), (26, true)] (fun w' => w'.cell? ⟨W.heap.size, 0, none⟩ = some (.int .i64 a0_0) ∧ w'.cell? ⟨W.heap.size, 1, none⟩ = some (.int .i64 a0_1) ∧ w'.cell? ⟨W.heap.size, 2, none⟩ = some (.int .i64 a0_2) ∧ w'.cell? ⟨W.heap.size, 3, none⟩ = some (.int .i64 a0_3)) (by kernel_rfl) (by kernel_rfl) (cells4 HT.out) (fun hHeld => ?_)
    simp only [List.map_cons, List.map_nil, List.getElem?_toArray, List.getElem?_cons_zero, List.getElem?_cons_succ]
    repeat (first | (first | (refine seq_skip (by rfl) ?_; try simp only [Act.put, List.setIfInBounds_toArray, List.set_cons_zero, List.set_cons_succ]) | (refine seq_not (by rfl) (by assumption) ?_; try simp only [Act.put, List.setIfInBounds_toArray, List.set_cons_zero, List.set_cons_succ]) | (refine seq_take (v := ?_) (by rfl) ?_ ?_; rotate_left; (focus ((intro w hSw; (try dsimp only at hSw); go_simp; (try with_reducible rfl)); done)); try simp only [Act.put, List.setIfInBounds_toArray, List.set_cons_zero, List.set_cons_succ])) | (refine seq_do (fun K hK => ?_); go_simp; (first | (go_at_call 11; (with_reducible refine Calls.mono (HO.out _) ?_)) | (go_at_call 13; (with_reducible refine Calls.mono (HRO.out _) ?_)) | (go_at_call 12; (with_reducible refine Calls.mono (HD.out _) ?_)) | (go_at_call 14; (with_reducible refine Calls.mono (HRD.out _) ?_))); rintro e w2 ⟨rfl, hb⟩; have HT := Lib.hid (HT.out.keeps hb); have HB := Lib.hid (HB.out.trans (hb.mono HB.out.size)); clear hb; dsimp only; refine hK.out _ _ (cells4 HT.out) (fun hHeld => ?_); clear hK K))
    refine seq_done ?_
    clear hHeld
    go_wp2
    go_ret
    exact ⟨rfl, HB.out⟩
end Go.Proofs.Ythnnejflgbminab.PairTimesW
