/- In a row of nodes, of which each hears the one ahead of it, and the first one somebody who knows the time, levels count on. No condition. -/
import Derived.Test.YteeeolagnndcaacLev2
import Derived.Test.YteeeolagnndcaacLf
namespace Go.Proofs.Yteeeolagnndcaac.LevelChainW
open Go.RowKit Go.Proofs.Yteeeolagnndcaac.Bk Go.Proofs.Yteeeolagnndcaac.Rw Go.Proofs.Yteeeolagnndcaac.Ow Go.Proofs.Yteeeolagnndcaac.Kp Go.Proofs.Yteeeolagnndcaac.Sq Go.Proofs.Yteeeolagnndcaac.Frm Go.Proofs.Yteeeolagnndcaac.Lev

theorem chain1 (k wf : Int) (h0 : 0 ≤ k) (h1 : k ≤ 59) (hw : (k = 0 ∧ wf = 63) ∨ (0 < k ∧ wf = k - 1)) : hear k (-1) (-1) wf k = (true, k + 1, wf) := by
  unfold hear
  rw [if_neg (by rw [(okFind_iff wf k).2 (by omega)]; simp; omega), if_neg (by omega), if_neg (by omega)]
theorem chain2 (k wf : Int) (h0 : 0 ≤ k) (h1 : k ≤ 59) (hw : (k = 0 ∧ wf = 63) ∨ (0 < k ∧ wf = k - 1)) : hear k (k + 1) wf wf k = (false, k + 1, wf) := by
  unfold hear
  rw [if_neg (by rw [(okFind_iff wf k).2 (by omega)]; simp; omega), if_neg (by omega), if_pos (by omega)]
theorem chain3 (k wf a : Int) (h0 : 0 ≤ k) (h1 : k ≤ 59) (ha : 0 ≤ a) (ha2 : a ≤ 63) (hak : a ≠ k) (haw : a ≠ wf) : hear k (k + 1) wf a (k + 1) = (false, k + 1, wf) := by
  unfold hear
  rw [if_neg (by rw [(okFind_iff a (k + 1)).2 (by omega)]; simp; omega), if_neg (by omega), if_pos (by omega)]

theorem early (a0 a1 : Int) (W : World) (h : a0 < 1 ∨ 60 < a0 ∨ a1 < 0 ∨ 63 < a1) :
    Calls Try.prog 5 #[.int .i64 a0, .int .i64 a1] W fun e w' => e = .returned (.bool true) ∧ Below W.heap.size W w' := by
  by_cases h1 : a0 < 1
  · clear h
    go_enter Try.func5, Try.ntmps5
    go_wp2_with (go_at_call 6; refine (alive_ok _).mono ?_; rintro e w1 ⟨rfl, hb⟩; have HB := Lib.hid hb; clear hb)
    go_ret
    exact ⟨rfl, HB.out⟩
  by_cases h2 : 60 < a0
  · clear h
    go_enter Try.func5, Try.ntmps5
    go_wp2_with (go_at_call 6; refine (alive_ok _).mono ?_; rintro e w1 ⟨rfl, hb⟩; have HB := Lib.hid hb; clear hb)
    go_ret
    exact ⟨rfl, HB.out⟩
  by_cases h3 : a1 < 0
  · clear h
    go_enter Try.func5, Try.ntmps5
    go_wp2_with (go_at_call 6; refine (alive_ok _).mono ?_; rintro e w1 ⟨rfl, hb⟩; have HB := Lib.hid hb; clear hb)
    go_ret
    exact ⟨rfl, HB.out⟩
  have h4 : 63 < a1 := by omega
  clear h
  go_enter Try.func5, Try.ntmps5
  go_wp2_with (go_at_call 6; refine (alive_ok _).mono ?_; rintro e w1 ⟨rfl, hb⟩; have HB := Lib.hid hb; clear hb)
  go_ret
  exact ⟨rfl, HB.out⟩

set_option maxRecDepth 100000 in
set_option maxHeartbeats 2000000 in
theorem walk (a0 : Int) (a1 : Int) (W : World) (w0 : (Lit.int .i64 a0).wf = true) (w1 : (Lit.int .i64 a1).wf = true) :
    Calls Try.prog 5 #[.int .i64 a0, .int .i64 a1] W fun e w' => e = .returned (.bool true) ∧ Below W.heap.size W w' := by
  clear w0 w1
  by_cases hin : a0 < 1 ∨ 60 < a0 ∨ a1 < 0 ∨ 63 < a1
  · exact early a0 a1 W hin
  have hd1 : decide (a0 < 1) = false := decide_eq_false (by omega)
  have hd2 : decide (60 < a0) = false := decide_eq_false (by omega)
  have hd3 : decide (a1 < 0) = false := decide_eq_false (by omega)
  have hd4 : decide (63 < a1) = false := decide_eq_false (by omega)
  have g1 : 1 ≤ a0 := by omega
  have g2 : a0 ≤ 60 := by omega
  have g3 : 0 ≤ a1 := by omega
  have g4 : a1 ≤ 63 := by omega
  clear hin
  go_enter Try.func5, Try.ntmps5
  go_wp2_with (go_at_call 6; refine (alive_ok _).mono ?_; rintro e w1 ⟨rfl, hb⟩; have HB := Lib.hid (hb.alloc hb.size (.cells #[.int .i64 63, .int .i64 0] 30)); have HZ := Lib.hid hb.size; clear hb)
  have HX := Lib.hid (Blk.new w1 30 #[.int .i64 63, .int .i64 0])
  go_loopw [6] (fun i wr => ∃ (k : Nat) (wf : Int), (k : Int) ≤ a0 ∧ i = .int .i64 k ∧ (((k : Int) = 0 ∧ wf = 63) ∨ (0 < (k : Int) ∧ wf = k - 1)) ∧ Blk wr w1.heap.size 30 #[.int .i64 wf, .int .i64 k] ∧ Below W.heap.size W wr) (fun i _ => a0.toNat - (intOf i).toNat)
  case atStart => exact ⟨0, 63, by omega, rfl, .inl ⟨rfl, rfl⟩, HX.out, HB.out⟩
  case round =>
    obtain ⟨k, wf, hk, rfl, hwf, hx, hb⟩ := hrel
    have hz := HZ.out
    clear HX HB HZ
    generalize w1.heap.size = t at hx hz ⊢
    have HX := Lib.hid hx
    have HB := Lib.hid hb
    have HWF := Lib.hid hwf
    have hwb : 0 ≤ wf ∧ wf ≤ 63 := by omega
    obtain ⟨hw0, hw1⟩ := hwb
    have hwk : (wf == (k : Int)) = false := by simp; omega
    clear hx hb hwf
    by_cases hlt : (k : Int) < a0
    · have C1 := Lib.hid (fun p w h => hear_ok p k (-1) (-1) wf k w h)
      rw [chain1 k wf (by omega) (by omega) HWF.out] at C1
      have C2 := Lib.hid (fun p w h => hear_ok p k (k + 1) wf wf k w h)
      rw [chain2 k wf (by omega) (by omega) HWF.out] at C2
      go_wp2_with fail
      refine (new_ok k _ (by omega) (by omega)).mono ?_
      rintro e w2 ⟨rfl, rfl⟩
      have hl : Lv (wr.alloc (.cells #[.int .i64 k, .int .i64 (-1), .int .i64 (-1)] 47)) wr.heap.size k (-1) (-1) := Blk.new _ _ _
      have hx2 := HX.out.alloc (.cells #[.int .i64 k, .int .i64 (-1), .int .i64 (-1)] 47)
      have hb2 := HB.out.alloc HB.out.size (.cells #[.int .i64 k, .int .i64 (-1), .int .i64 (-1)] 47)
      have hp := HB.out.size
      have htp := HX.out.lt
      generalize wr.alloc (.cells #[.int .i64 k, .int .i64 (-1), .int .i64 (-1)] 47) = w2 at hl hx2 hb2 ⊢
      generalize wr.heap.size = p at hl hp htp ⊢
      have HL2 := Lib.hid hl
      have HX2 := Lib.hid hx2
      have HB2 := Lib.hid hb2
      have hwr : IntKind.i64.wrap ((k : Int) + 1) = (k : Int) + 1 := IntWalk.i64_in _ (by omega)
      clear hl hx2 hb2 HX HB
      go_wp2_with fail
      have HL3 := Lib.hid HL2.out.drew
      have HX3 := Lib.hid HX2.out.drew
      have HB3 := Lib.hid (below_drew_ HB2.out)
      refine wp_region_seq [(0, true), (1, true), (2, true), (3, true), (4, true), (5, false), (6, true), (7, true), (8, true), (9, true), (11, true), (12, true), (10, false), (13, true), (14, true), (15, true), (16, true), (18, true), (19, true), (17, false), (20, true), (21, true), (22, true), (23, true), (24, true), (25, false), (26, true)] (fun w' => w'.cell? ⟨t, 0, none⟩ = some (.int .i64 wf) ∧ w'.cell? ⟨t, 1, none⟩ = some (.int .i64 k)) (by kernel_rfl) (by kernel_rfl) ⟨HX3.out.cell 0, HX3.out.cell 1⟩ (fun hHeld => ?_)
      simp only [List.map_cons, List.map_nil, List.getElem?_toArray, List.getElem?_cons_zero, List.getElem?_cons_succ]
      repeat (first | (refine seq_skip (by rfl) ?_; try simp only [Act.put, List.setIfInBounds_toArray, List.set_cons_zero, List.set_cons_succ]) | (refine seq_not (by rfl) (by assumption) ?_; try simp only [Act.put, List.setIfInBounds_toArray, List.set_cons_zero, List.set_cons_succ]) | (refine seq_take (v := ?_) (by rfl) ?_ ?_; rotate_left; (focus ((intro w hSw; (try dsimp only at hSw); go_simp; (try with_reducible rfl)); done)); try simp only [Act.put, List.setIfInBounds_toArray, List.set_cons_zero, List.set_cons_succ]))
      refine seq_do (fun K hK => ?_)
      go_simp
      go_at_call 9
      with_reducible refine Calls.mono (C1.out _ _ HL3.out) ?_
      rintro e w5 ⟨rfl, hl, hk2⟩
      have HL4 := Lib.hid hl
      have HX4 := Lib.hid (blk_kp HX3.out hk2 (fun h => by omega))
      have HB4 := Lib.hid (below_kp HB3.out HB3.out.size hk2 (fun k hk => by omega))
      clear hl hk2 hHeld
      dsimp only
      refine hK.out _ _ ⟨HX4.out.cell 0, HX4.out.cell 1⟩ (fun hHeld => ?_)
      clear hK K
      repeat (first | (refine seq_skip (by rfl) ?_; try simp only [Act.put, List.setIfInBounds_toArray, List.set_cons_zero, List.set_cons_succ]) | (refine seq_not (by rfl) (by assumption) ?_; try simp only [Act.put, List.setIfInBounds_toArray, List.set_cons_zero, List.set_cons_succ]) | (refine seq_take (v := ?_) (by rfl) ?_ ?_; rotate_left; (focus ((intro w hSw; (try dsimp only at hSw); go_simp; (try with_reducible rfl)); done)); try simp only [Act.put, List.setIfInBounds_toArray, List.set_cons_zero, List.set_cons_succ]))
      refine seq_do (fun K hK => ?_)
      go_simp
      go_at_call 8
      with_reducible refine Calls.mono (level_ok p k (k + 1) wf _ HL4.out) ?_
      rintro e w' ⟨rfl, rfl⟩
      dsimp only
      refine hK.out _ _ hHeld (fun _ => ?_)
      clear hK K
      repeat (first | (refine seq_skip (by rfl) ?_; try simp only [Act.put, List.setIfInBounds_toArray, List.set_cons_zero, List.set_cons_succ]) | (refine seq_not (by rfl) (by assumption) ?_; try simp only [Act.put, List.setIfInBounds_toArray, List.set_cons_zero, List.set_cons_succ]) | (refine seq_take (v := ?_) (by rfl) ?_ ?_; rotate_left; (focus ((intro w hSw; (try dsimp only at hSw); go_simp; (try with_reducible rfl)); done)); try simp only [Act.put, List.setIfInBounds_toArray, List.set_cons_zero, List.set_cons_succ]))
      refine seq_do (fun K hK => ?_)
      go_simp
      go_at_call 10
      with_reducible refine Calls.mono (parent_ok p k (k + 1) wf _ HL4.out) ?_
      rintro e w' ⟨rfl, rfl⟩
      dsimp only
      refine hK.out _ _ hHeld (fun _ => ?_)
      clear hK K
      repeat (first | (refine seq_skip (by rfl) ?_; try simp only [Act.put, List.setIfInBounds_toArray, List.set_cons_zero, List.set_cons_succ]) | (refine seq_not (by rfl) (by assumption) ?_; try simp only [Act.put, List.setIfInBounds_toArray, List.set_cons_zero, List.set_cons_succ]) | (refine seq_take (v := ?_) (by rfl) ?_ ?_; rotate_left; (focus ((intro w hSw; (try dsimp only at hSw); go_simp; (try with_reducible rfl)); done)); try simp only [Act.put, List.setIfInBounds_toArray, List.set_cons_zero, List.set_cons_succ]))
      refine seq_do (fun K hK => ?_)
      go_simp
      go_at_call 9
      with_reducible refine Calls.mono (C2.out _ _ HL4.out) ?_
      rintro e w6 ⟨rfl, hl, hk2⟩
      have HL5 := Lib.hid hl
      have HX5 := Lib.hid (blk_kp HX4.out hk2 (fun h => by omega))
      have HB5 := Lib.hid (below_kp HB4.out HB4.out.size hk2 (fun k hk => by omega))
      clear hl hk2 hHeld
      dsimp only
      refine hK.out _ _ ⟨HX5.out.cell 0, HX5.out.cell 1⟩ (fun hHeld => ?_)
      clear hK K
      repeat (first | (refine seq_skip (by rfl) ?_; try simp only [Act.put, List.setIfInBounds_toArray, List.set_cons_zero, List.set_cons_succ]) | (refine seq_not (by rfl) (by assumption) ?_; try simp only [Act.put, List.setIfInBounds_toArray, List.set_cons_zero, List.set_cons_succ]) | (refine seq_take (v := ?_) (by rfl) ?_ ?_; rotate_left; (focus ((intro w hSw; (try dsimp only at hSw); go_simp; (try with_reducible rfl)); done)); try simp only [Act.put, List.setIfInBounds_toArray, List.set_cons_zero, List.set_cons_succ]))
      refine seq_done ?_
      clear hHeld HL2 HX2 HB2 HL3 HX3 HB3 HL4 HX4 HB4 C1 C2
      have HL := HL5
      have HX := HX5
      have HB := HB5
      clear HL5 HX5 HB5 hwr
      by_cases hak : a1 = k
      · have ha1 : (a1 != (k : Int)) = false := by simp [hak]
        have ha2 : (a1 == (k : Int)) = true := by simp [hak]
        clear hak
        go_wp2_with fail
        refine (tell_yes p k (k + 1) wf _ HL.out (by omega)).mono ?_
        rintro e w8 ⟨rfl, hb⟩
        have HX8 := Lib.hid (HX.out.keeps hb)
        have HB8 := Lib.hid (HB.out.trans (hb.mono HB.out.size))
        clear hb
        have x0 : (w8.alloc (.cells #[.int .i64 k, .int .i64 ((k : Int) + 1)] 30)).cell? ⟨t, 0, none⟩ = some (.int .i64 wf) := (HX8.out.alloc _).cell 0
        have x1 : (w8.alloc (.cells #[.int .i64 k, .int .i64 ((k : Int) + 1)] 30)).cell? ⟨t, 1, none⟩ = some (.int .i64 k) := (HX8.out.alloc _).cell 1
        have f0 := (HX8.out.alloc (.cells #[.int .i64 k, .int .i64 ((k : Int) + 1)] 30)).frozen 0
        have f1 := (HX8.out.alloc (.cells #[.int .i64 k, .int .i64 ((k : Int) + 1)] 30)).frozen 1
        have y0 : w8.cell? ⟨t, 0, none⟩ = some (.int .i64 wf) := HX8.out.cell 0
        have y1 : w8.cell? ⟨t, 1, none⟩ = some (.int .i64 k) := HX8.out.cell 1
        have e0 := HX8.out.frozen 0
        have e1 := HX8.out.frozen 1
        have ht8 : t < w8.heap.size := HX8.out.lt
        have ht9 : ¬ w8.heap.size = t := by omega
        have ht10 : ¬ t = w8.heap.size := by omega
        go_wp2
        go_roundw
        case rel =>
          have hbs := HB8.out.size
          refine ⟨k + 1, k, by omega, by go_num, .inr ⟨by omega, by omega⟩, ?_, ?_⟩
          · rw [show ((k + 1 : Nat) : Int) = (k : Int) + 1 by omega]
            exact ((HX8.out.set_ 0 (.int .i64 k)).set_ 1 (.int .i64 ((k : Int) + 1))).alloc _
          · exact ((HB8.out.setCell (p := ⟨t, 0, none⟩) hz _).setCell (p := ⟨t, 1, none⟩) hz _).alloc (by simpa [World.setCell] using hbs) _
        case measure => simp [intOf]; omega
      by_cases haw : a1 = wf
      · have ha1 : (a1 != (k : Int)) = true := by simp [hak]
        have ha2 : (a1 != wf) = false := by simp [haw]
        have x0 : w6.cell? ⟨t, 0, none⟩ = some (.int .i64 wf) := HX.out.cell 0
        clear hak haw
        go_wp2_with fail
        clear x0
        go_wp2_with fail
        refine (tell_yes p k (k + 1) wf _ HL.out (by omega)).mono ?_
        rintro e w8 ⟨rfl, hb⟩
        have HX8 := Lib.hid (HX.out.keeps hb)
        have HB8 := Lib.hid (HB.out.trans (hb.mono HB.out.size))
        clear hb
        have x0 : (w8.alloc (.cells #[.int .i64 k, .int .i64 ((k : Int) + 1)] 30)).cell? ⟨t, 0, none⟩ = some (.int .i64 wf) := (HX8.out.alloc _).cell 0
        have x1 : (w8.alloc (.cells #[.int .i64 k, .int .i64 ((k : Int) + 1)] 30)).cell? ⟨t, 1, none⟩ = some (.int .i64 k) := (HX8.out.alloc _).cell 1
        have f0 := (HX8.out.alloc (.cells #[.int .i64 k, .int .i64 ((k : Int) + 1)] 30)).frozen 0
        have f1 := (HX8.out.alloc (.cells #[.int .i64 k, .int .i64 ((k : Int) + 1)] 30)).frozen 1
        have y0 : w8.cell? ⟨t, 0, none⟩ = some (.int .i64 wf) := HX8.out.cell 0
        have y1 : w8.cell? ⟨t, 1, none⟩ = some (.int .i64 k) := HX8.out.cell 1
        have e0 := HX8.out.frozen 0
        have e1 := HX8.out.frozen 1
        have ht8 : t < w8.heap.size := HX8.out.lt
        have ht9 : ¬ w8.heap.size = t := by omega
        have ht10 : ¬ t = w8.heap.size := by omega
        go_wp2
        go_roundw
        case rel =>
          have hbs := HB8.out.size
          refine ⟨k + 1, k, by omega, by go_num, .inr ⟨by omega, by omega⟩, ?_, ?_⟩
          · rw [show ((k + 1 : Nat) : Int) = (k : Int) + 1 by omega]
            exact ((HX8.out.set_ 0 (.int .i64 k)).set_ 1 (.int .i64 ((k : Int) + 1))).alloc _
          · exact ((HB8.out.setCell (p := ⟨t, 0, none⟩) hz _).setCell (p := ⟨t, 1, none⟩) hz _).alloc (by simpa [World.setCell] using hbs) _
        case measure => simp [intOf]; omega
      · have C3 := Lib.hid (fun p w h => hear_ok p k (k + 1) wf a1 (k + 1) w h)
        rw [chain3 k wf a1 (by omega) (by omega) g3 g4 hak haw] at C3
        have ha1 : (a1 != (k : Int)) = true := by simp [hak]
        have ha2 : (a1 != wf) = true := by simp [haw]
        have x0 : w6.cell? ⟨t, 0, none⟩ = some (.int .i64 wf) := HX.out.cell 0
        clear hak haw
        go_wp2_with fail
        refine (C3.out _ _ HL.out).mono ?_
        rintro e w7 ⟨rfl, hl, hk2⟩
        have HL7 := Lib.hid hl
        have HX7 := Lib.hid (blk_kp HX.out hk2 (fun h => by omega))
        have HB7 := Lib.hid (below_kp HB.out HB.out.size hk2 (fun k hk => by omega))
        clear hl hk2 x0 HL HX HB C3
        have HL := HL7
        have HX := HX7
        have HB := HB7
        clear HL7 HX7 HB7
        go_wp2_with fail
        refine (tell_yes p k (k + 1) wf _ HL.out (by omega)).mono ?_
        rintro e w8 ⟨rfl, hb⟩
        have HX8 := Lib.hid (HX.out.keeps hb)
        have HB8 := Lib.hid (HB.out.trans (hb.mono HB.out.size))
        clear hb
        have x0 : (w8.alloc (.cells #[.int .i64 k, .int .i64 ((k : Int) + 1)] 30)).cell? ⟨t, 0, none⟩ = some (.int .i64 wf) := (HX8.out.alloc _).cell 0
        have x1 : (w8.alloc (.cells #[.int .i64 k, .int .i64 ((k : Int) + 1)] 30)).cell? ⟨t, 1, none⟩ = some (.int .i64 k) := (HX8.out.alloc _).cell 1
        have f0 := (HX8.out.alloc (.cells #[.int .i64 k, .int .i64 ((k : Int) + 1)] 30)).frozen 0
        have f1 := (HX8.out.alloc (.cells #[.int .i64 k, .int .i64 ((k : Int) + 1)] 30)).frozen 1
        have y0 : w8.cell? ⟨t, 0, none⟩ = some (.int .i64 wf) := HX8.out.cell 0
        have y1 : w8.cell? ⟨t, 1, none⟩ = some (.int .i64 k) := HX8.out.cell 1
        have e0 := HX8.out.frozen 0
        have e1 := HX8.out.frozen 1
        have ht8 : t < w8.heap.size := HX8.out.lt
        have ht9 : ¬ w8.heap.size = t := by omega
        have ht10 : ¬ t = w8.heap.size := by omega
        go_wp2
        go_roundw
        case rel =>
          have hbs := HB8.out.size
          refine ⟨k + 1, k, by omega, by go_num, .inr ⟨by omega, by omega⟩, ?_, ?_⟩
          · rw [show ((k + 1 : Nat) : Int) = (k : Int) + 1 by omega]
            exact ((HX8.out.set_ 0 (.int .i64 k)).set_ 1 (.int .i64 ((k : Int) + 1))).alloc _
          · exact ((HB8.out.setCell (p := ⟨t, 0, none⟩) hz _).setCell (p := ⟨t, 1, none⟩) hz _).alloc (by simpa [World.setCell] using hbs) _
        case measure => simp [intOf]; omega
    · go_wp2
      go_ret
      exact ⟨rfl, HB.out⟩
end Go.Proofs.Yteeeolagnndcaac.LevelChainW
