/- A node that hears nothing new takes itself for the root after as many rounds as the timeout, not sooner; then it hears no other one for as many as it ignores, and then it does. No condition. -/
import Derived.Test.YthnnejflgbminaaEw
import Derived.Test.YthnnejflgbminaaLf
namespace Go.Proofs.Ythnnejflgbminaa.ElectWaitsW
open Go.RowKit Go.Proofs.Ythnnejflgbminaa.Bk Go.Proofs.Ythnnejflgbminaa.Rw Go.Proofs.Ythnnejflgbminaa.Ow Go.Proofs.Ythnnejflgbminaa.Kp Go.Proofs.Ythnnejflgbminaa.Sq Go.Proofs.Ythnnejflgbminaa.Ck Go.Proofs.Ythnnejflgbminaa.Ck2 Go.Proofs.Ythnnejflgbminaa.Mp Go.Proofs.Ythnnejflgbminaa.El

set_option maxRecDepth 100000 in
theorem early (a0 a1_0 a1_1 a2 a3 : Int) (W : World) (h : (a0 < 0 ∨ 63 < a0) ∨ gd a1_0 a1_1 = false) :
    Calls Try.prog 4 #[.int .i64 a0, .agg #[.int .i64 a1_0, .int .i64 a1_1], .int .i64 a2, .int .u16 a3] W fun e w' => e = .returned (.bool true) ∧ Below W.heap.size W w' := by
  have N0 := Lib.hid (fun w => new_no a0 a1_0 a1_1 w h)
  have HX0 := Lib.hid (Blk.new W 23 #[.int .i64 a1_0, .int .i64 a1_1])
  have HB0 := Lib.hid ((Below.refl _ W).alloc (Nat.le_refl _) (.cells #[.int .i64 a1_0, .int .i64 a1_1] 23))
  clear h
  go_enter Try.func4, Try.ntmps4
  go_wp2_with fail
  refine (alive_ok _).mono ?_
  rintro e w1 ⟨rfl, hb⟩
  have HX1 := Lib.hid (HX0.out.keeps hb)
  have HB1 := Lib.hid (HB0.out.trans (hb.mono HB0.out.size))
  have hx := cells2 HX1.out
  obtain ⟨x0, x1, _, _⟩ := hx
  clear hb HX0 HB0
  go_wp2_with fail
  refine (N0.out _).mono ?_
  rintro e w2 ⟨rfl, hb⟩
  have HB2 := Lib.hid (HB1.out.trans (hb.mono HB1.out.size))
  clear hb x0 x1
  go_wp2
  go_ret
  exact ⟨rfl, HB2.out⟩

set_option maxRecDepth 100000 in
set_option maxHeartbeats 1000000 in
set_option linter.unusedVariables false in
theorem walk (a0 : Int) (a1_0 : Int) (a1_1 : Int) (a2 : Int) (a3 : Int) (W : World) (w0 : (Lit.int .i64 a0).wf = true) (w1_0 : (Lit.int .i64 a1_0).wf = true) (w1_1 : (Lit.int .i64 a1_1).wf = true) (w2 : (Lit.int .i64 a2).wf = true) (w3 : (Lit.int .u16 a3).wf = true) :
    Calls Try.prog 4 #[.int .i64 a0, .agg #[.int .i64 a1_0, .int .i64 a1_1], .int .i64 a2, .int .u16 a3] W fun e w' => e = .returned (.bool true) ∧ Below W.heap.size W w' := by
  have b2 := bounds_i64 w2
  have HR2 := Lib.hid (show -9223372036854775808 ≤ a2 ∧ a2 ≤ 9223372036854775807 by omega)
  clear w0 w1_0 w1_1 w2 w3 b2
  by_cases hr : (a0 < 0 ∨ 63 < a0) ∨ gd a1_0 a1_1 = false
  · exact early a0 a1_0 a1_1 a2 a3 W hr
  have hru := RuOk.of hr
  clear hr
  by_cases h0 : a2 < 0
  · as_aux_lemma =>
    obtain ⟨ro, f, hpl⟩ : ∃ ro f, Plan a0 a1_0 a1_1 a2 a3 ro 0 f := ⟨_, _, plan_no a2 a3 hru (.inl h0)⟩
    have PL := Lib.hid hpl
    have RU := Lib.hid hru
    have ht0 := hru.t0
    have ht1 := hru.t1
    have hg0 := hru.g0
    have hg1 := hru.g1
    clear hpl hru
    have HX0 := Lib.hid (Blk.new W 23 #[.int .i64 a1_0, .int .i64 a1_1])
    have HB0 := Lib.hid ((Below.refl _ W).alloc (Nat.le_refl _) (.cells #[.int .i64 a1_0, .int .i64 a1_1] 23))
    go_enter Try.func4, Try.ntmps4
    go_wp2_with fail
    refine (alive_ok _).mono ?_
    rintro e w1 ⟨rfl, hb⟩
    have HX1 := Lib.hid (HX0.out.keeps hb)
    have HB1 := Lib.hid (HB0.out.trans (hb.mono HB0.out.size))
    have hx := cells2 HX1.out
    obtain ⟨x0, x1, _, _⟩ := hx
    clear hb HX0 HB0
    go_wp2_with fail
    refine (ob_new _ RU.out).mono ?_
    rintro e w2 ⟨p, bm, rfl, ho, hp, hbm, hb⟩
    have H2 := Lib.hid ho
    have HX2 := Lib.hid (HX1.out.keeps hb)
    have HB2 := Lib.hid (HB1.out.trans (hb.mono HB1.out.size))
    have hxl := HX1.out.lt
    have hpx : W.heap.size < p := by omega
    have hbx : W.heap.size < bm := by omega
    clear ho hb x0 x1 HX1 HB1 hp hbm hxl
    go_wp2_with fail
    refine (ob_hear_is H2.out (by unfold maxLen; omega) HR2.out PL.out.h1).mono ?_
    rintro e w3 ⟨rfl, ho, hk⟩
    have H3 := Lib.hid ho
    have HX3 := Lib.hid (blk_kp HX2.out hk (by omega))
    have HB3 := Lib.hid (below_kp HB2.out HB2.out.size hk (fun k hk => by omega))
    clear ho hk H2 HX2 HB2
    go_wp2_with fail
    go_loopw [12] (fun i wr => ∃ (k : Int) (n : Nat), 1 ≤ k ∧ k ≤ a1_0 + 1 ∧ (n : Int) ≤ k ∧ i = .int .i64 k ∧ Ob wr p bm n a0 a1_0 a1_1 (sw a0 a1_0 a1_1 ro k) f ∧ Blk wr W.heap.size 23 #[.int .i64 a1_0, .int .i64 a1_1] ∧ Below W.heap.size W wr) (fun i _ => (a1_0 + 1 - intOf i).toNat)
    case atStart => exact ⟨1, 1, by omega, by omega, by omega, rfl, H3.out, HX3.out, HB3.out⟩
    case round =>
      clear H3 HX3 HB3
      obtain ⟨k, n, hk1, hk2, hn, rfl, ho, hx, hb⟩ := hrel
      have H := Lib.hid ho
      have HX := Lib.hid hx
      have HB := Lib.hid hb
      have hc := cells2 hx
      obtain ⟨x0, x1, _, _⟩ := hc
      clear ho hx hb
      by_cases hlt : k ≤ a1_0
      · obtain ⟨b, hkb⟩ : ∃ b, (k == a1_0) = b := ⟨_, rfl⟩
        have C2 := Lib.hid (show beat a0 a1_0 a1_1 (sw a0 a1_0 a1_1 ro k) = (b, sw a0 a1_0 a1_1 ro (k + 1)) from hkb ▸ PL.out.b2 k hk1 hlt)
        go_wp2_with fail
        refine wp_region_seq [(0, true), (1, true), (2, true), (3, true), (4, false), (5, true), (6, true), (7, true), (9, true), (10, true), (11, true), (12, true), (8, false), (13, true), (14, true)] (fun w' => w'.cell? ⟨W.heap.size, 0, none⟩ = some (.int .i64 a1_0)) (by kernel_rfl) (by kernel_rfl) (HX.out.drew.cell 0) (fun hHeld => ?_)
        simp only [List.map_cons, List.map_nil, List.getElem?_toArray, List.getElem?_cons_zero, List.getElem?_cons_succ]
        repeat (first | (refine seq_skip (by rfl) ?_; try simp only [Act.put, List.setIfInBounds_toArray, List.set_cons_zero, List.set_cons_succ]) | (refine seq_not (by rfl) (by assumption) ?_; try simp only [Act.put, List.setIfInBounds_toArray, List.set_cons_zero, List.set_cons_succ]) | (refine seq_take (v := ?_) (by rfl) ?_ ?_; rotate_left; (focus ((intro w hSw; (try dsimp only at hSw); go_simp; (try with_reducible rfl)); done)); try simp only [Act.put, List.setIfInBounds_toArray, List.set_cons_zero, List.set_cons_succ]))
        refine seq_do (fun K hK => ?_)
        go_simp
        go_at_call 10
        (with_reducible refine Calls.mono (ob_hear_is H.out.drew (by unfold maxLen; omega) HR2.out (PL.out.h2 k hk1 hlt)) ?_)
        rintro e w4 ⟨rfl, ho, hk⟩
        have H4 := Lib.hid ho
        have HX4 := Lib.hid (blk_kp HX.out.drew hk (by omega))
        have HB4 := Lib.hid (below_kp (below_drew HB.out) HB.out.size hk (fun k hk => by omega))
        dsimp only
        refine hK.out _ _ (HX4.out.cell 0) (fun hHeld => ?_)
        clear hK K ho hk x0 x1
        repeat (first | (refine seq_skip (by rfl) ?_; try simp only [Act.put, List.setIfInBounds_toArray, List.set_cons_zero, List.set_cons_succ]) | (refine seq_not (by rfl) (by assumption) ?_; try simp only [Act.put, List.setIfInBounds_toArray, List.set_cons_zero, List.set_cons_succ]) | (refine seq_take (v := ?_) (by rfl) ?_ ?_; rotate_left; (focus ((intro w hSw; (try dsimp only at hSw); go_simp; (try with_reducible rfl)); done)); try simp only [Act.put, List.setIfInBounds_toArray, List.set_cons_zero, List.set_cons_succ]))
        refine seq_do (fun K hK => ?_)
        go_simp
        go_at_call 12
        (with_reducible refine Calls.mono (ob_beat_is H4.out RU.out (PL.out.s2 k hk1 hlt) C2.out) ?_)
        rintro e w5 ⟨rfl, ho, hk⟩
        have H5 := Lib.hid ho
        have HX5 := Lib.hid (blk_kp HX4.out hk (by omega))
        have HB5 := Lib.hid (below_kp HB4.out HB4.out.size hk (fun k hk => by omega))
        dsimp only
        refine hK.out _ _ (HX5.out.cell 0) (fun hHeld => ?_)
        clear hK K ho hk
        repeat (first | (refine seq_skip (by rfl) ?_; try simp only [Act.put, List.setIfInBounds_toArray, List.set_cons_zero, List.set_cons_succ]) | (refine seq_not (by rfl) (by assumption) ?_; try simp only [Act.put, List.setIfInBounds_toArray, List.set_cons_zero, List.set_cons_succ]) | (refine seq_take (v := ?_) (by rfl) ?_ ?_; rotate_left; (focus ((intro w hSw; (try dsimp only at hSw); go_simp; (try with_reducible rfl)); done)); try simp only [Act.put, List.setIfInBounds_toArray, List.set_cons_zero, List.set_cons_succ]))
        refine seq_done ?_
        clear hHeld
        go_wp2
        go_roundw
        case rel => exact ⟨k + 1, n + 1, by omega, by omega, by omega, by go_num, H5.out, HX5.out, HB5.out⟩
        case measure => simp [intOf]; omega
      · have hke : k = a1_0 + 1 := by omega
        have H2 := Lib.hid (show Ob _ p bm n a0 a1_0 a1_1 ⟨0, 0, a0, 0, a1_1 - 0⟩ f from by have := H.out; rw [hke] at this; unfold sw at this; rw [if_neg (by omega)] at this; simpa using this)
        clear H
        go_wp2_with fail
        go_loopw [13] (fun i wr => ∃ (j : Int) (n : Nat), 0 ≤ j ∧ j ≤ a1_1 ∧ (n : Int) ≤ 1001 + j ∧ i = .int .i64 j ∧ Ob wr p bm n a0 a1_0 a1_1 ⟨0, 0, a0, 0, a1_1 - j⟩ f ∧ Blk wr W.heap.size 23 #[.int .i64 a1_0, .int .i64 a1_1] ∧ Below W.heap.size W wr) (fun i _ => (a1_1 - intOf i).toNat)
        case atStart => exact ⟨0, n, by omega, by omega, by omega, rfl, H2.out, HX.out, HB.out⟩
        case round =>
          clear H2 HX HB x0 x1 hke hlt hk1 hk2 hn
          obtain ⟨j, n, hj1, hj2, hn, rfl, ho, hx, hb⟩ := hrel
          have H := Lib.hid ho
          have HX := Lib.hid hx
          have HB := Lib.hid hb
          have hc := cells2 hx
          obtain ⟨x0, x1, _, _⟩ := hc
          clear ho hx hb
          by_cases hlt : j < a1_1
          · go_wp2_with fail
            refine (ob_hear_is H.out (by unfold maxLen; omega) HR2.out (PL.out.h3 j hj1 hlt)).mono ?_
            rintro e w4 ⟨rfl, ho, hk⟩
            have H4 := Lib.hid ho
            have HX4 := Lib.hid (blk_kp HX.out hk (by omega))
            have HB4 := Lib.hid (below_kp HB.out HB.out.size hk (fun k hk => by omega))
            clear ho hk x0 x1 H HX HB
            go_wp2_with fail
            refine (ob_beat_is H4.out RU.out (PL.out.s3 j hj1 hlt) (PL.out.b3 j hj1 hlt)).mono ?_
            rintro e w5 ⟨rfl, ho, hk⟩
            have H5 := Lib.hid ho
            have HX5 := Lib.hid (blk_kp HX4.out hk (by omega))
            have HB5 := Lib.hid (below_kp HB4.out HB4.out.size hk (fun k hk => by omega))
            clear ho hk
            go_wp2
            go_roundw
            case rel => exact ⟨j + 1, n + 1, by omega, by omega, by omega, by go_num, H5.out, HX5.out, HB5.out⟩
            case measure => simp [intOf]; omega
          · obtain ⟨s4, f4, h4⟩ := PL.out.h4
            have C4 := Lib.hid h4
            have H := Lib.hid (show Ob _ p bm n a0 a1_0 a1_1 ⟨0, 0, a0, 0, a1_1 - a1_1⟩ f from by have := H.out; rw [show j = a1_1 by omega] at this; exact this)
            have HM := Lib.hid (show Calls Try.prog 14 #[.pointer (some ⟨p, 0, none⟩)] _ fun e w' => e = .returned (.bool true) ∧ w' = _ from by have := ob_mine H.out; rwa [show ((⟨0, 0, a0, 0, a1_1 - a1_1⟩ : St).root == a0) = true by simp] at this)
            clear h4
            go_wp2_with fail
            refine HM.out.mono ?_
            rintro e w4 ⟨rfl, rfl⟩
            go_wp2_with fail
            refine (ob_hear_is H.out.drew (by unfold maxLen; omega) HR2.out C4.out).mono ?_
            rintro e w5 ⟨rfl, ho, hk⟩
            have HB5 := Lib.hid (below_kp (below_drew HB.out) HB.out.size hk (fun k hk => by omega))
            clear ho hk
            go_wp2
            go_ret
            refine ⟨?_, HB5.out⟩
            first | rfl | (rw [show decide (a2 < a0) = false by simp; omega]; rfl)
  by_cases h1 : a0 ≤ a2
  · as_aux_lemma =>
    obtain ⟨ro, f, hpl⟩ : ∃ ro f, Plan a0 a1_0 a1_1 a2 a3 ro 0 f := ⟨_, _, plan_no a2 a3 hru (.inr h1)⟩
    have PL := Lib.hid hpl
    have RU := Lib.hid hru
    have ht0 := hru.t0
    have ht1 := hru.t1
    have hg0 := hru.g0
    have hg1 := hru.g1
    clear hpl hru
    have HX0 := Lib.hid (Blk.new W 23 #[.int .i64 a1_0, .int .i64 a1_1])
    have HB0 := Lib.hid ((Below.refl _ W).alloc (Nat.le_refl _) (.cells #[.int .i64 a1_0, .int .i64 a1_1] 23))
    go_enter Try.func4, Try.ntmps4
    go_wp2_with fail
    refine (alive_ok _).mono ?_
    rintro e w1 ⟨rfl, hb⟩
    have HX1 := Lib.hid (HX0.out.keeps hb)
    have HB1 := Lib.hid (HB0.out.trans (hb.mono HB0.out.size))
    have hx := cells2 HX1.out
    obtain ⟨x0, x1, _, _⟩ := hx
    clear hb HX0 HB0
    go_wp2_with fail
    refine (ob_new _ RU.out).mono ?_
    rintro e w2 ⟨p, bm, rfl, ho, hp, hbm, hb⟩
    have H2 := Lib.hid ho
    have HX2 := Lib.hid (HX1.out.keeps hb)
    have HB2 := Lib.hid (HB1.out.trans (hb.mono HB1.out.size))
    have hxl := HX1.out.lt
    have hpx : W.heap.size < p := by omega
    have hbx : W.heap.size < bm := by omega
    clear ho hb x0 x1 HX1 HB1 hp hbm hxl
    go_wp2_with fail
    refine (ob_hear_is H2.out (by unfold maxLen; omega) HR2.out PL.out.h1).mono ?_
    rintro e w3 ⟨rfl, ho, hk⟩
    have H3 := Lib.hid ho
    have HX3 := Lib.hid (blk_kp HX2.out hk (by omega))
    have HB3 := Lib.hid (below_kp HB2.out HB2.out.size hk (fun k hk => by omega))
    clear ho hk H2 HX2 HB2
    go_wp2_with fail
    go_loopw [12] (fun i wr => ∃ (k : Int) (n : Nat), 1 ≤ k ∧ k ≤ a1_0 + 1 ∧ (n : Int) ≤ k ∧ i = .int .i64 k ∧ Ob wr p bm n a0 a1_0 a1_1 (sw a0 a1_0 a1_1 ro k) f ∧ Blk wr W.heap.size 23 #[.int .i64 a1_0, .int .i64 a1_1] ∧ Below W.heap.size W wr) (fun i _ => (a1_0 + 1 - intOf i).toNat)
    case atStart => exact ⟨1, 1, by omega, by omega, by omega, rfl, H3.out, HX3.out, HB3.out⟩
    case round =>
      clear H3 HX3 HB3
      obtain ⟨k, n, hk1, hk2, hn, rfl, ho, hx, hb⟩ := hrel
      have H := Lib.hid ho
      have HX := Lib.hid hx
      have HB := Lib.hid hb
      have hc := cells2 hx
      obtain ⟨x0, x1, _, _⟩ := hc
      clear ho hx hb
      by_cases hlt : k ≤ a1_0
      · obtain ⟨b, hkb⟩ : ∃ b, (k == a1_0) = b := ⟨_, rfl⟩
        have C2 := Lib.hid (show beat a0 a1_0 a1_1 (sw a0 a1_0 a1_1 ro k) = (b, sw a0 a1_0 a1_1 ro (k + 1)) from hkb ▸ PL.out.b2 k hk1 hlt)
        go_wp2_with fail
        refine wp_region_seq [(0, true), (1, true), (2, true), (3, true), (4, false), (5, true), (6, true), (7, true), (9, true), (10, true), (11, true), (12, true), (8, false), (13, true), (14, true)] (fun w' => w'.cell? ⟨W.heap.size, 0, none⟩ = some (.int .i64 a1_0)) (by kernel_rfl) (by kernel_rfl) (HX.out.drew.cell 0) (fun hHeld => ?_)
        simp only [List.map_cons, List.map_nil, List.getElem?_toArray, List.getElem?_cons_zero, List.getElem?_cons_succ]
        repeat (first | (refine seq_skip (by rfl) ?_; try simp only [Act.put, List.setIfInBounds_toArray, List.set_cons_zero, List.set_cons_succ]) | (refine seq_not (by rfl) (by assumption) ?_; try simp only [Act.put, List.setIfInBounds_toArray, List.set_cons_zero, List.set_cons_succ]) | (refine seq_take (v := ?_) (by rfl) ?_ ?_; rotate_left; (focus ((intro w hSw; (try dsimp only at hSw); go_simp; (try with_reducible rfl)); done)); try simp only [Act.put, List.setIfInBounds_toArray, List.set_cons_zero, List.set_cons_succ]))
        refine seq_do (fun K hK => ?_)
        go_simp
        go_at_call 10
        (with_reducible refine Calls.mono (ob_hear_is H.out.drew (by unfold maxLen; omega) HR2.out (PL.out.h2 k hk1 hlt)) ?_)
        rintro e w4 ⟨rfl, ho, hk⟩
        have H4 := Lib.hid ho
        have HX4 := Lib.hid (blk_kp HX.out.drew hk (by omega))
        have HB4 := Lib.hid (below_kp (below_drew HB.out) HB.out.size hk (fun k hk => by omega))
        dsimp only
        refine hK.out _ _ (HX4.out.cell 0) (fun hHeld => ?_)
        clear hK K ho hk x0 x1
        repeat (first | (refine seq_skip (by rfl) ?_; try simp only [Act.put, List.setIfInBounds_toArray, List.set_cons_zero, List.set_cons_succ]) | (refine seq_not (by rfl) (by assumption) ?_; try simp only [Act.put, List.setIfInBounds_toArray, List.set_cons_zero, List.set_cons_succ]) | (refine seq_take (v := ?_) (by rfl) ?_ ?_; rotate_left; (focus ((intro w hSw; (try dsimp only at hSw); go_simp; (try with_reducible rfl)); done)); try simp only [Act.put, List.setIfInBounds_toArray, List.set_cons_zero, List.set_cons_succ]))
        refine seq_do (fun K hK => ?_)
        go_simp
        go_at_call 12
        (with_reducible refine Calls.mono (ob_beat_is H4.out RU.out (PL.out.s2 k hk1 hlt) C2.out) ?_)
        rintro e w5 ⟨rfl, ho, hk⟩
        have H5 := Lib.hid ho
        have HX5 := Lib.hid (blk_kp HX4.out hk (by omega))
        have HB5 := Lib.hid (below_kp HB4.out HB4.out.size hk (fun k hk => by omega))
        dsimp only
        refine hK.out _ _ (HX5.out.cell 0) (fun hHeld => ?_)
        clear hK K ho hk
        repeat (first | (refine seq_skip (by rfl) ?_; try simp only [Act.put, List.setIfInBounds_toArray, List.set_cons_zero, List.set_cons_succ]) | (refine seq_not (by rfl) (by assumption) ?_; try simp only [Act.put, List.setIfInBounds_toArray, List.set_cons_zero, List.set_cons_succ]) | (refine seq_take (v := ?_) (by rfl) ?_ ?_; rotate_left; (focus ((intro w hSw; (try dsimp only at hSw); go_simp; (try with_reducible rfl)); done)); try simp only [Act.put, List.setIfInBounds_toArray, List.set_cons_zero, List.set_cons_succ]))
        refine seq_done ?_
        clear hHeld
        go_wp2
        go_roundw
        case rel => exact ⟨k + 1, n + 1, by omega, by omega, by omega, by go_num, H5.out, HX5.out, HB5.out⟩
        case measure => simp [intOf]; omega
      · have hke : k = a1_0 + 1 := by omega
        have H2 := Lib.hid (show Ob _ p bm n a0 a1_0 a1_1 ⟨0, 0, a0, 0, a1_1 - 0⟩ f from by have := H.out; rw [hke] at this; unfold sw at this; rw [if_neg (by omega)] at this; simpa using this)
        clear H
        go_wp2_with fail
        go_loopw [13] (fun i wr => ∃ (j : Int) (n : Nat), 0 ≤ j ∧ j ≤ a1_1 ∧ (n : Int) ≤ 1001 + j ∧ i = .int .i64 j ∧ Ob wr p bm n a0 a1_0 a1_1 ⟨0, 0, a0, 0, a1_1 - j⟩ f ∧ Blk wr W.heap.size 23 #[.int .i64 a1_0, .int .i64 a1_1] ∧ Below W.heap.size W wr) (fun i _ => (a1_1 - intOf i).toNat)
        case atStart => exact ⟨0, n, by omega, by omega, by omega, rfl, H2.out, HX.out, HB.out⟩
        case round =>
          clear H2 HX HB x0 x1 hke hlt hk1 hk2 hn
          obtain ⟨j, n, hj1, hj2, hn, rfl, ho, hx, hb⟩ := hrel
          have H := Lib.hid ho
          have HX := Lib.hid hx
          have HB := Lib.hid hb
          have hc := cells2 hx
          obtain ⟨x0, x1, _, _⟩ := hc
          clear ho hx hb
          by_cases hlt : j < a1_1
          · go_wp2_with fail
            refine (ob_hear_is H.out (by unfold maxLen; omega) HR2.out (PL.out.h3 j hj1 hlt)).mono ?_
            rintro e w4 ⟨rfl, ho, hk⟩
            have H4 := Lib.hid ho
            have HX4 := Lib.hid (blk_kp HX.out hk (by omega))
            have HB4 := Lib.hid (below_kp HB.out HB.out.size hk (fun k hk => by omega))
            clear ho hk x0 x1 H HX HB
            go_wp2_with fail
            refine (ob_beat_is H4.out RU.out (PL.out.s3 j hj1 hlt) (PL.out.b3 j hj1 hlt)).mono ?_
            rintro e w5 ⟨rfl, ho, hk⟩
            have H5 := Lib.hid ho
            have HX5 := Lib.hid (blk_kp HX4.out hk (by omega))
            have HB5 := Lib.hid (below_kp HB4.out HB4.out.size hk (fun k hk => by omega))
            clear ho hk
            go_wp2
            go_roundw
            case rel => exact ⟨j + 1, n + 1, by omega, by omega, by omega, by go_num, H5.out, HX5.out, HB5.out⟩
            case measure => simp [intOf]; omega
          · obtain ⟨s4, f4, h4⟩ := PL.out.h4
            have C4 := Lib.hid h4
            have H := Lib.hid (show Ob _ p bm n a0 a1_0 a1_1 ⟨0, 0, a0, 0, a1_1 - a1_1⟩ f from by have := H.out; rw [show j = a1_1 by omega] at this; exact this)
            have HM := Lib.hid (show Calls Try.prog 14 #[.pointer (some ⟨p, 0, none⟩)] _ fun e w' => e = .returned (.bool true) ∧ w' = _ from by have := ob_mine H.out; rwa [show ((⟨0, 0, a0, 0, a1_1 - a1_1⟩ : St).root == a0) = true by simp] at this)
            clear h4
            go_wp2_with fail
            refine HM.out.mono ?_
            rintro e w4 ⟨rfl, rfl⟩
            go_wp2_with fail
            refine (ob_hear_is H.out.drew (by unfold maxLen; omega) HR2.out C4.out).mono ?_
            rintro e w5 ⟨rfl, ho, hk⟩
            have HB5 := Lib.hid (below_kp (below_drew HB.out) HB.out.size hk (fun k hk => by omega))
            clear ho hk
            go_wp2
            go_ret
            refine ⟨?_, HB5.out⟩
            first | rfl | (rw [show decide (a2 < a0) = false by simp; omega]; rfl)
  · as_aux_lemma =>
    obtain ⟨ro, f, hpl⟩ : ∃ ro f, Plan a0 a1_0 a1_1 a2 a3 ro 2 f := ⟨_, _, plan_yes a2 a3 hru h0 h1⟩
    have PL := Lib.hid hpl
    have RU := Lib.hid hru
    have ht0 := hru.t0
    have ht1 := hru.t1
    have hg0 := hru.g0
    have hg1 := hru.g1
    clear hpl hru
    have HX0 := Lib.hid (Blk.new W 23 #[.int .i64 a1_0, .int .i64 a1_1])
    have HB0 := Lib.hid ((Below.refl _ W).alloc (Nat.le_refl _) (.cells #[.int .i64 a1_0, .int .i64 a1_1] 23))
    go_enter Try.func4, Try.ntmps4
    go_wp2_with fail
    refine (alive_ok _).mono ?_
    rintro e w1 ⟨rfl, hb⟩
    have HX1 := Lib.hid (HX0.out.keeps hb)
    have HB1 := Lib.hid (HB0.out.trans (hb.mono HB0.out.size))
    have hx := cells2 HX1.out
    obtain ⟨x0, x1, _, _⟩ := hx
    clear hb HX0 HB0
    go_wp2_with fail
    refine (ob_new _ RU.out).mono ?_
    rintro e w2 ⟨p, bm, rfl, ho, hp, hbm, hb⟩
    have H2 := Lib.hid ho
    have HX2 := Lib.hid (HX1.out.keeps hb)
    have HB2 := Lib.hid (HB1.out.trans (hb.mono HB1.out.size))
    have hxl := HX1.out.lt
    have hpx : W.heap.size < p := by omega
    have hbx : W.heap.size < bm := by omega
    clear ho hb x0 x1 HX1 HB1 hp hbm hxl
    go_wp2_with fail
    refine (ob_hear_is H2.out (by unfold maxLen; omega) HR2.out PL.out.h1).mono ?_
    rintro e w3 ⟨rfl, ho, hk⟩
    have H3 := Lib.hid ho
    have HX3 := Lib.hid (blk_kp HX2.out hk (by omega))
    have HB3 := Lib.hid (below_kp HB2.out HB2.out.size hk (fun k hk => by omega))
    clear ho hk H2 HX2 HB2
    go_wp2_with fail
    go_loopw [12] (fun i wr => ∃ (k : Int) (n : Nat), 1 ≤ k ∧ k ≤ a1_0 + 1 ∧ (n : Int) ≤ k ∧ i = .int .i64 k ∧ Ob wr p bm n a0 a1_0 a1_1 (sw a0 a1_0 a1_1 ro k) f ∧ Blk wr W.heap.size 23 #[.int .i64 a1_0, .int .i64 a1_1] ∧ Below W.heap.size W wr) (fun i _ => (a1_0 + 1 - intOf i).toNat)
    case atStart => exact ⟨1, 1, by omega, by omega, by omega, rfl, H3.out, HX3.out, HB3.out⟩
    case round =>
      clear H3 HX3 HB3
      obtain ⟨k, n, hk1, hk2, hn, rfl, ho, hx, hb⟩ := hrel
      have H := Lib.hid ho
      have HX := Lib.hid hx
      have HB := Lib.hid hb
      have hc := cells2 hx
      obtain ⟨x0, x1, _, _⟩ := hc
      clear ho hx hb
      by_cases hlt : k ≤ a1_0
      · obtain ⟨b, hkb⟩ : ∃ b, (k == a1_0) = b := ⟨_, rfl⟩
        have C2 := Lib.hid (show beat a0 a1_0 a1_1 (sw a0 a1_0 a1_1 ro k) = (b, sw a0 a1_0 a1_1 ro (k + 1)) from hkb ▸ PL.out.b2 k hk1 hlt)
        go_wp2_with fail
        refine wp_region_seq [(0, true), (1, true), (2, true), (3, true), (4, false), (5, true), (6, true), (7, true), (9, true), (10, true), (11, true), (12, true), (8, false), (13, true), (14, true)] (fun w' => w'.cell? ⟨W.heap.size, 0, none⟩ = some (.int .i64 a1_0)) (by kernel_rfl) (by kernel_rfl) (HX.out.drew.cell 0) (fun hHeld => ?_)
        simp only [List.map_cons, List.map_nil, List.getElem?_toArray, List.getElem?_cons_zero, List.getElem?_cons_succ]
        repeat (first | (refine seq_skip (by rfl) ?_; try simp only [Act.put, List.setIfInBounds_toArray, List.set_cons_zero, List.set_cons_succ]) | (refine seq_not (by rfl) (by assumption) ?_; try simp only [Act.put, List.setIfInBounds_toArray, List.set_cons_zero, List.set_cons_succ]) | (refine seq_take (v := ?_) (by rfl) ?_ ?_; rotate_left; (focus ((intro w hSw; (try dsimp only at hSw); go_simp; (try with_reducible rfl)); done)); try simp only [Act.put, List.setIfInBounds_toArray, List.set_cons_zero, List.set_cons_succ]))
        refine seq_do (fun K hK => ?_)
        go_simp
        go_at_call 10
        (with_reducible refine Calls.mono (ob_hear_is H.out.drew (by unfold maxLen; omega) HR2.out (PL.out.h2 k hk1 hlt)) ?_)
        rintro e w4 ⟨rfl, ho, hk⟩
        have H4 := Lib.hid ho
        have HX4 := Lib.hid (blk_kp HX.out.drew hk (by omega))
        have HB4 := Lib.hid (below_kp (below_drew HB.out) HB.out.size hk (fun k hk => by omega))
        dsimp only
        refine hK.out _ _ (HX4.out.cell 0) (fun hHeld => ?_)
        clear hK K ho hk x0 x1
        repeat (first | (refine seq_skip (by rfl) ?_; try simp only [Act.put, List.setIfInBounds_toArray, List.set_cons_zero, List.set_cons_succ]) | (refine seq_not (by rfl) (by assumption) ?_; try simp only [Act.put, List.setIfInBounds_toArray, List.set_cons_zero, List.set_cons_succ]) | (refine seq_take (v := ?_) (by rfl) ?_ ?_; rotate_left; (focus ((intro w hSw; (try dsimp only at hSw); go_simp; (try with_reducible rfl)); done)); try simp only [Act.put, List.setIfInBounds_toArray, List.set_cons_zero, List.set_cons_succ]))
        refine seq_do (fun K hK => ?_)
        go_simp
        go_at_call 12
        (with_reducible refine Calls.mono (ob_beat_is H4.out RU.out (PL.out.s2 k hk1 hlt) C2.out) ?_)
        rintro e w5 ⟨rfl, ho, hk⟩
        have H5 := Lib.hid ho
        have HX5 := Lib.hid (blk_kp HX4.out hk (by omega))
        have HB5 := Lib.hid (below_kp HB4.out HB4.out.size hk (fun k hk => by omega))
        dsimp only
        refine hK.out _ _ (HX5.out.cell 0) (fun hHeld => ?_)
        clear hK K ho hk
        repeat (first | (refine seq_skip (by rfl) ?_; try simp only [Act.put, List.setIfInBounds_toArray, List.set_cons_zero, List.set_cons_succ]) | (refine seq_not (by rfl) (by assumption) ?_; try simp only [Act.put, List.setIfInBounds_toArray, List.set_cons_zero, List.set_cons_succ]) | (refine seq_take (v := ?_) (by rfl) ?_ ?_; rotate_left; (focus ((intro w hSw; (try dsimp only at hSw); go_simp; (try with_reducible rfl)); done)); try simp only [Act.put, List.setIfInBounds_toArray, List.set_cons_zero, List.set_cons_succ]))
        refine seq_done ?_
        clear hHeld
        go_wp2
        go_roundw
        case rel => exact ⟨k + 1, n + 1, by omega, by omega, by omega, by go_num, H5.out, HX5.out, HB5.out⟩
        case measure => simp [intOf]; omega
      · have hke : k = a1_0 + 1 := by omega
        have H2 := Lib.hid (show Ob _ p bm n a0 a1_0 a1_1 ⟨0, 0, a0, 0, a1_1 - 0⟩ f from by have := H.out; rw [hke] at this; unfold sw at this; rw [if_neg (by omega)] at this; simpa using this)
        clear H
        go_wp2_with fail
        go_loopw [13] (fun i wr => ∃ (j : Int) (n : Nat), 0 ≤ j ∧ j ≤ a1_1 ∧ (n : Int) ≤ 1001 + j ∧ i = .int .i64 j ∧ Ob wr p bm n a0 a1_0 a1_1 ⟨0, 0, a0, 0, a1_1 - j⟩ f ∧ Blk wr W.heap.size 23 #[.int .i64 a1_0, .int .i64 a1_1] ∧ Below W.heap.size W wr) (fun i _ => (a1_1 - intOf i).toNat)
        case atStart => exact ⟨0, n, by omega, by omega, by omega, rfl, H2.out, HX.out, HB.out⟩
        case round =>
          clear H2 HX HB x0 x1 hke hlt hk1 hk2 hn
          obtain ⟨j, n, hj1, hj2, hn, rfl, ho, hx, hb⟩ := hrel
          have H := Lib.hid ho
          have HX := Lib.hid hx
          have HB := Lib.hid hb
          have hc := cells2 hx
          obtain ⟨x0, x1, _, _⟩ := hc
          clear ho hx hb
          by_cases hlt : j < a1_1
          · go_wp2_with fail
            refine (ob_hear_is H.out (by unfold maxLen; omega) HR2.out (PL.out.h3 j hj1 hlt)).mono ?_
            rintro e w4 ⟨rfl, ho, hk⟩
            have H4 := Lib.hid ho
            have HX4 := Lib.hid (blk_kp HX.out hk (by omega))
            have HB4 := Lib.hid (below_kp HB.out HB.out.size hk (fun k hk => by omega))
            clear ho hk x0 x1 H HX HB
            go_wp2_with fail
            refine (ob_beat_is H4.out RU.out (PL.out.s3 j hj1 hlt) (PL.out.b3 j hj1 hlt)).mono ?_
            rintro e w5 ⟨rfl, ho, hk⟩
            have H5 := Lib.hid ho
            have HX5 := Lib.hid (blk_kp HX4.out hk (by omega))
            have HB5 := Lib.hid (below_kp HB4.out HB4.out.size hk (fun k hk => by omega))
            clear ho hk
            go_wp2
            go_roundw
            case rel => exact ⟨j + 1, n + 1, by omega, by omega, by omega, by go_num, H5.out, HX5.out, HB5.out⟩
            case measure => simp [intOf]; omega
          · obtain ⟨s4, f4, h4⟩ := PL.out.h4
            have C4 := Lib.hid h4
            have H := Lib.hid (show Ob _ p bm n a0 a1_0 a1_1 ⟨0, 0, a0, 0, a1_1 - a1_1⟩ f from by have := H.out; rw [show j = a1_1 by omega] at this; exact this)
            have HM := Lib.hid (show Calls Try.prog 14 #[.pointer (some ⟨p, 0, none⟩)] _ fun e w' => e = .returned (.bool true) ∧ w' = _ from by have := ob_mine H.out; rwa [show ((⟨0, 0, a0, 0, a1_1 - a1_1⟩ : St).root == a0) = true by simp] at this)
            clear h4
            go_wp2_with fail
            refine HM.out.mono ?_
            rintro e w4 ⟨rfl, rfl⟩
            go_wp2_with fail
            refine (ob_hear_is H.out.drew (by unfold maxLen; omega) HR2.out C4.out).mono ?_
            rintro e w5 ⟨rfl, ho, hk⟩
            have HB5 := Lib.hid (below_kp (below_drew HB.out) HB.out.size hk (fun k hk => by omega))
            clear ho hk
            go_wp2
            go_ret
            refine ⟨?_, HB5.out⟩
            first | rfl | (rw [show decide (a2 < a0) = false by simp; omega]; rfl)
end Go.Proofs.Ythnnejflgbminaa.ElectWaitsW
