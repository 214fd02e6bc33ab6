/- The walk of Beat, and of what tells that the program answers. -/
import Derived.Test.YthnnejflgbminabPr2
namespace Go.Proofs.Ythnnejflgbminab.Pr
open Go.RowKit Go.Proofs.Ythnnejflgbminab.Bk Go.Proofs.Ythnnejflgbminab.Rw Go.Proofs.Ythnnejflgbminab.Ow Go.Proofs.Ythnnejflgbminab.Kp Go.Proofs.Ythnnejflgbminab.Sq Go.Proofs.Ythnnejflgbminab.Ck Go.Proofs.Ythnnejflgbminab.Tm Go.Proofs.Ythnnejflgbminab.Frm Go.Proofs.Ythnnejflgbminab.Sq2

def hearOk (me : Int) (s : St) (rf rt rs rg rb rh loc : Int) : Bool := s.waiting && rt == me && rf == s.to && rs == s.sent && tg rs rg rb loc && decide (0 ≤ rh ∧ rh ≤ 62)
def heard (s : St) : St := { s with waiting := false, tries := 0 }
theorem hear_no (p : Nat) (me : Int) (s : St) (rf rt rs rg rb rr ru rh loc : Int) (w : World) (h : Pd w p me s) (hk : hearOk me s rf rt rs rg rb rh loc = false) (hr0 : -9223372036854775808 ≤ rh) (hr1 : rh ≤ 9223372036854775807) :
    Calls Try.prog 17 #[.pointer (some ⟨p, 0, none⟩), .agg #[.int .i64 rf, .int .i64 rt, .int .i64 rs, .int .i64 rg, .int .i64 rb, .int .i64 rr, .int .u16 ru, .int .i64 rh], .int .i64 loc] w fun e w' => e = .returned (.tuple #[.agg #[.int .i64 0, .int .i64 0, .int .i64 0], .bool false]) ∧ Below w.heap.size w w' := by
  obtain ⟨st, ss, sw, sd, sv, sr⟩ := s
  unfold hearOk at hk
  simp only at hk
  cases sw with
  | false => exact hear_no1 p me st ss sd sv sr rf rt rs rg rb rr ru rh loc w h
  | true =>
    by_cases c1 : rt = me
    rotate_left
    · exact hear_no2 p me st ss sd sv sr rf rt rs rg rb rr ru rh loc w h (by simpa using c1)
    by_cases c2 : rf = st
    rotate_left
    · exact hear_no3 p me st ss sd sv sr rf rt rs rg rb rr ru rh loc w h (by simpa using c1) (by simpa using c2)
    by_cases c3 : rs = ss
    rotate_left
    · exact hear_no4 p me st ss sd sv sr rf rt rs rg rb rr ru rh loc w h (by simpa using c1) (by simpa using c2) (by simpa using c3)
    by_cases hg : tg rs rg rb loc = true
    rotate_left
    · exact hear_no5 p me st ss sd sv sr rf rt rs rg rb rr ru rh loc w h (by simpa using c1) (by simpa using c2) (by simpa using c3) (by simpa using hg)
    · refine hear_no6 p me st ss sd sv sr rf rt rs rg rb rr ru rh loc w h (by simpa using c1) (by simpa using c2) (by simpa using c3) hg ?_ hr0 hr1
      rw [show (rt == me) = true by simpa using c1, show (rf == st) = true by simpa using c2, show (rs == ss) = true by simpa using c3, hg] at hk
      exact of_decide_eq_false hk
theorem hear_ok (p : Nat) (me : Int) (s : St) (rf rt rs rg rb rr ru rh loc : Int) (w : World) (h : Pd w p me s) (hk : hearOk me s rf rt rs rg rb rh loc = true) :
    Calls Try.prog 17 #[.pointer (some ⟨p, 0, none⟩), .agg #[.int .i64 rf, .int .i64 rt, .int .i64 rs, .int .i64 rg, .int .i64 rb, .int .i64 rr, .int .u16 ru, .int .i64 rh], .int .i64 loc] w fun e w' => e = .returned (.tuple #[.agg #[.int .i64 loc, .int .i64 (offs rs rg rb loc), .int .i64 (rh + 1)], .bool true]) ∧ Pd w' p me (heard s) ∧ Kp (fun k => k = p) w w' := by
  obtain ⟨st, ss, sw, sd, sv, sr⟩ := s
  unfold hearOk at hk
  simp only [Bool.and_eq_true, beq_iff_eq, decide_eq_true_eq] at hk
  obtain ⟨⟨⟨⟨⟨k1, k2⟩, k3⟩, k4⟩, k5⟩, k6, k7⟩ := hk
  subst k1
  exact hear_yes p me st ss sd sv sr rf rt rs rg rb rr ru rh loc w h (by simpa using k2) (by simpa using k3) (by simpa using k4) k5 k6 k7
theorem ask_no (p : Nat) (me : Int) (s : St) (tt loc : Int) (w : World) (h : Pd w p me s) (hk : askOk me s tt loc = false) :
    Calls Try.prog 16 #[.pointer (some ⟨p, 0, none⟩), .int .i64 tt, .int .i64 loc] w fun e w' => e = .returned (.tuple #[.agg #[.int .i64 0, .int .i64 0, .int .i64 0], .bool false]) ∧ Below w.heap.size w w' := by
  unfold askOk at hk
  by_cases c1 : s.waiting = true
  · exact ask_no1 p me s tt loc w h c1
  by_cases c2 : 0 < s.rest
  · exact ask_no2 p me s tt loc w h (by simpa using c1) c2
  by_cases c3 : (tt == me) = true
  · exact ask_no3 p me s tt loc w h (by simpa using c1) c2 c3
  · refine ask_no4 p me s tt loc w h (by simpa using c1) c2 (by simpa using c3) ?_
    simp only [Bool.not_eq_true] at c1 c3
    simpa [c1, c2, c3] using hk
theorem ask_ok (p : Nat) (me : Int) (s : St) (tt loc : Int) (w : World) (h : Pd w p me s) (hk : askOk me s tt loc = true) :
    Calls Try.prog 16 #[.pointer (some ⟨p, 0, none⟩), .int .i64 tt, .int .i64 loc] w fun e w' => e = .returned (.tuple #[.agg #[.int .i64 me, .int .i64 tt, .int .i64 loc], .bool true]) ∧ Pd w' p me (asked s tt loc) ∧ Kp (fun k => k = p) w w' := by
  unfold askOk at hk
  simp only [Bool.not_eq_true', Bool.or_eq_false_iff, decide_eq_false_iff_not, Bool.not_eq_false'] at hk
  obtain ⟨⟨⟨k1, k2⟩, k3⟩, k4⟩ := hk
  exact ask_yes p me s tt loc w h k1 k2 k3 k4

def beat (s : St) : Bool × St :=
  if s.waiting = false then (false, { s with rest := max (s.rest - 1) 0 })
  else if s.waited + 1 < 2 then (false, { s with waited := s.waited + 1 })
  else if s.tries + 1 < 3 then (false, { s with waiting := false, waited := s.waited + 1, tries := s.tries + 1, rest := if s.tries = 0 then 1 else 3 })
  else (true, { s with waiting := false, waited := s.waited + 1, tries := 0, rest := 0 })
/-- What is so of a state. -/
structure StOk (s : St) : Prop where
  waited : s.waiting = true → s.waited = 0 ∨ s.waited = 1
  tries : s.tries = 0 ∨ s.tries = 1 ∨ s.tries = 2
  rest : 0 ≤ s.rest ∧ s.rest ≤ 3
theorem StOk.st0 : StOk st0 := ⟨by simp [Pr.st0], .inl rfl, by simp [Pr.st0]⟩
theorem StOk.asked {s : St} (h : StOk s) (tt loc : Int) : StOk (asked s tt loc) := ⟨fun _ => .inl rfl, h.tries, h.rest⟩
theorem StOk.heard {s : St} (h : StOk s) : StOk (heard s) := ⟨by simp [Pr.heard], .inl rfl, h.rest⟩
theorem StOk.beat {s : St} (h : StOk s) : StOk (beat s).2 := by
  unfold Pr.beat
  obtain ⟨h1, h2, h3⟩ := h
  obtain ⟨t, ss, sw, sd, sv, sr⟩ := s
  simp only at h1 h2 h3 ⊢
  by_cases c1 : sw = false
  · rw [if_pos c1]
    exact ⟨by simp [c1], h2, by simp only; omega⟩
  rw [if_neg c1]
  have hw := h1 (by simpa using c1)
  by_cases c2 : sd + 1 < 2
  · rw [if_pos c2]
    exact ⟨fun _ => by simp only; omega, h2, h3⟩
  rw [if_neg c2]
  by_cases c3 : sv + 1 < 3
  · rw [if_pos c3]
    exact ⟨by simp, by simp only; omega, by simp only; split <;> omega⟩
  rw [if_neg c3]
  exact ⟨by simp, .inl rfl, by simp⟩
theorem beat_nil (w : World) : Calls Try.prog 19 #[.pointer none] w fun e w' => e = .returned (.bool false) ∧ w = w' := by
  go_enter Try.func19, Try.ntmps19
  go_wp2
  go_ret
  exact ⟨rfl, rfl⟩
theorem beat_1 (p : Nat) (me t ss sd sv sr : Int) (w : World) (h : Pd w p me ⟨t, ss, false, sd, sv, sr⟩) (h0 : 0 ≤ sr) (h3 : sr ≤ 3) :
    Calls Try.prog 19 #[.pointer (some ⟨p, 0, none⟩)] w fun e w' => e = .returned (.bool false) ∧ Pd w' p me ⟨t, ss, false, sd, sv, max (sr - 1) 0⟩ ∧ Kp (fun k => k = p) w w' := by
  have hx := cells7 h
  obtain ⟨⟨c0, c1, c2, c3, c4, c5, c6⟩, f0, f1, f2, f3, f4, f5, f6⟩ := hx
  have H := Lib.hid h
  clear h
  rcases (by omega : sr = 0 ∨ sr = 1 ∨ sr = 2 ∨ sr = 3) with rfl | rfl | rfl | rfl
  all_goals
    go_enter Try.func19, Try.ntmps19
    go_wp2
    go_ret
    have k := H.out
    refine ⟨rfl, ?_, ?_⟩
    · ((repeat (first | (with_reducible assumption) | (with_reducible apply Blk.drew) | (with_reducible apply set_at) | ((with_reducible apply set_far); (focus omega)) | (with_reducible apply Blk.alloc))); all_goals rfl)
    · (repeat (first | (with_reducible assumption) | (with_reducible apply Kp.drew) | ((with_reducible apply kp_set); (focus (first | exact .inl rfl | (right; (try simp only [size_set, size_drew, World.size_alloc]); omega)))) | (with_reducible apply Kp.alloc) | (with_reducible exact Kp.refl _ _)))
theorem beat_2 (p : Nat) (me t ss sv sr : Int) (w : World) (h : Pd w p me ⟨t, ss, true, 0, sv, sr⟩) :
    Calls Try.prog 19 #[.pointer (some ⟨p, 0, none⟩)] w fun e w' => e = .returned (.bool false) ∧ Pd w' p me ⟨t, ss, true, 1, sv, sr⟩ ∧ Kp (fun k => k = p) w w' := by
  have hx := cells7 h
  obtain ⟨⟨c0, c1, c2, c3, c4, c5, c6⟩, f0, f1, f2, f3, f4, f5, f6⟩ := hx
  have H := Lib.hid h
  clear h
  go_enter Try.func19, Try.ntmps19
  go_wp2
  go_ret
  have k := H.out
  refine ⟨rfl, ?_, ?_⟩
  · ((repeat (first | (with_reducible assumption) | (with_reducible apply Blk.drew) | (with_reducible apply set_at) | ((with_reducible apply set_far); (focus omega)) | (with_reducible apply Blk.alloc))); all_goals rfl)
  · (repeat (first | (with_reducible assumption) | (with_reducible apply Kp.drew) | ((with_reducible apply kp_set); (focus (first | exact .inl rfl | (right; (try simp only [size_set, size_drew, World.size_alloc]); omega)))) | (with_reducible apply Kp.alloc) | (with_reducible exact Kp.refl _ _)))
theorem beat_3 (p : Nat) (me t ss sr : Int) (w : World) (h : Pd w p me ⟨t, ss, true, 1, 0, sr⟩) :
    Calls Try.prog 19 #[.pointer (some ⟨p, 0, none⟩)] w fun e w' => e = .returned (.bool false) ∧ Pd w' p me ⟨t, ss, false, 2, 1, 1⟩ ∧ Kp (fun k => k = p) w w' := by
  have hx := cells7 h
  obtain ⟨⟨c0, c1, c2, c3, c4, c5, c6⟩, f0, f1, f2, f3, f4, f5, f6⟩ := hx
  have H := Lib.hid h
  clear h
  go_enter Try.func19, Try.ntmps19
  go_wp2
  go_ret
  have k := H.out
  refine ⟨rfl, ?_, ?_⟩
  · ((repeat (first | (with_reducible assumption) | (with_reducible apply Blk.drew) | (with_reducible apply set_at) | ((with_reducible apply set_far); (focus omega)) | (with_reducible apply Blk.alloc))); all_goals rfl)
  · (repeat (first | (with_reducible assumption) | (with_reducible apply Kp.drew) | ((with_reducible apply kp_set); (focus (first | exact .inl rfl | (right; (try simp only [size_set, size_drew, World.size_alloc]); omega)))) | (with_reducible apply Kp.alloc) | (with_reducible exact Kp.refl _ _)))
theorem beat_4 (p : Nat) (me t ss sr : Int) (w : World) (h : Pd w p me ⟨t, ss, true, 1, 1, sr⟩) :
    Calls Try.prog 19 #[.pointer (some ⟨p, 0, none⟩)] w fun e w' => e = .returned (.bool false) ∧ Pd w' p me ⟨t, ss, false, 2, 2, 3⟩ ∧ Kp (fun k => k = p) w w' := by
  have hx := cells7 h
  obtain ⟨⟨c0, c1, c2, c3, c4, c5, c6⟩, f0, f1, f2, f3, f4, f5, f6⟩ := hx
  have H := Lib.hid h
  clear h
  go_enter Try.func19, Try.ntmps19
  go_wp2
  go_ret
  have k := H.out
  refine ⟨rfl, ?_, ?_⟩
  · ((repeat (first | (with_reducible assumption) | (with_reducible apply Blk.drew) | (with_reducible apply set_at) | ((with_reducible apply set_far); (focus omega)) | (with_reducible apply Blk.alloc))); all_goals rfl)
  · (repeat (first | (with_reducible assumption) | (with_reducible apply Kp.drew) | ((with_reducible apply kp_set); (focus (first | exact .inl rfl | (right; (try simp only [size_set, size_drew, World.size_alloc]); omega)))) | (with_reducible apply Kp.alloc) | (with_reducible exact Kp.refl _ _)))
theorem beat_5 (p : Nat) (me t ss sr : Int) (w : World) (h : Pd w p me ⟨t, ss, true, 1, 2, sr⟩) :
    Calls Try.prog 19 #[.pointer (some ⟨p, 0, none⟩)] w fun e w' => e = .returned (.bool true) ∧ Pd w' p me ⟨t, ss, false, 2, 0, 0⟩ ∧ Kp (fun k => k = p) w w' := by
  have hx := cells7 h
  obtain ⟨⟨c0, c1, c2, c3, c4, c5, c6⟩, f0, f1, f2, f3, f4, f5, f6⟩ := hx
  have H := Lib.hid h
  clear h
  go_enter Try.func19, Try.ntmps19
  go_wp2
  go_ret
  have k := H.out
  refine ⟨rfl, ?_, ?_⟩
  · ((repeat (first | (with_reducible assumption) | (with_reducible apply Blk.drew) | (with_reducible apply set_at) | ((with_reducible apply set_far); (focus omega)) | (with_reducible apply Blk.alloc))); all_goals rfl)
  · (repeat (first | (with_reducible assumption) | (with_reducible apply Kp.drew) | ((with_reducible apply kp_set); (focus (first | exact .inl rfl | (right; (try simp only [size_set, size_drew, World.size_alloc]); omega)))) | (with_reducible apply Kp.alloc) | (with_reducible exact Kp.refl _ _)))
theorem beat_ok (p : Nat) (me : Int) (s : St) (w : World) (h : Pd w p me s) (hk : StOk s) :
    Calls Try.prog 19 #[.pointer (some ⟨p, 0, none⟩)] w fun e w' => e = .returned (.bool (beat s).1) ∧ Pd w' p me (beat s).2 ∧ Kp (fun k => k = p) w w' := by
  unfold beat
  obtain ⟨h1, h2, h3⟩ := hk
  obtain ⟨t, ss, sw, sd, sv, sr⟩ := s
  simp only at h1 h2 h3 ⊢
  cases sw with
  | false =>
    rw [if_pos rfl]
    exact beat_1 p me t ss sd sv sr w h h3.1 h3.2
  | true =>
    rw [if_neg (by simp)]
    rcases h1 rfl with rfl | rfl
    · rw [if_pos (by omega)]
      exact beat_2 p me t ss sv sr w h
    · rw [if_neg (by omega)]
      rcases h2 with rfl | rfl | rfl
      · rw [if_pos (by omega), if_pos rfl]
        exact beat_3 p me t ss sr w h
      · rw [if_pos (by omega), if_neg (by omega)]
        exact beat_4 p me t ss sr w h
      · rw [if_neg (by omega)]
        exact beat_5 p me t ss sr w h
theorem alive_ok (w : World) : Calls Try.prog 8 #[] w fun e w' => e = .returned (.bool true) ∧ Below w.heap.size w w' := by
  have hT := Blk.new w 23 #[.int .i64 0, .int .i64 105, .int .i64 107, .int .i64 12]
  have HT := Lib.hid hT
  have HB := Lib.hid ((Below.refl _ w).alloc (Nat.le_refl _) (.cells #[.int .i64 0, .int .i64 105, .int .i64 107, .int .i64 12] 23))
  have HG := Lib.hid (fun w => show Calls Try.prog 10 #[.agg #[.int .i64 0, .int .i64 105, .int .i64 107, .int .i64 12]] w fun e w' => e = .returned (.bool true) ∧ Below w.heap.size w w' from (show tg 0 105 107 12 = true by decide) ▸ good_ok 0 105 107 12 w)
  have HO := Lib.hid (fun w => show Calls Try.prog 11 #[.agg #[.int .i64 0, .int .i64 105, .int .i64 107, .int .i64 12]] w fun e w' => e = .returned (.int .i64 100) ∧ Below w.heap.size w w' from (show offs 0 105 107 12 = 100 by decide) ▸ offset_good 0 105 107 12 w (by decide))
  have HD := Lib.hid (fun w => show Calls Try.prog 12 #[.agg #[.int .i64 0, .int .i64 105, .int .i64 107, .int .i64 12]] w fun e w' => e = .returned (.int .i64 5) ∧ Below w.heap.size w w' from (show dely 0 105 107 12 = 5 by decide) ▸ delay_good 0 105 107 12 w (by decide))
  clear hT
  go_enter Try.func8, Try.ntmps8
  go_wp2_with fail
  refine (new_ok 3 _ (by omega) (by omega)).mono ?_
  rintro e w2 ⟨rfl, rfl⟩
  have HP := Lib.hid (show Pd ((w.alloc (.cells #[.int .i64 0, .int .i64 105, .int .i64 107, .int .i64 12] 23)).alloc (.cells (st0.cs 3) 68)) (w.heap.size + 1) 3 st0 from new_at (by simp))
  have HT1 := Lib.hid (HT.out.alloc (.cells (st0.cs 3) 68))
  have HB1 := Lib.hid (HB.out.alloc HB.out.size (.cells (st0.cs 3) 68))
  clear HT HB
  generalize (w.alloc (.cells #[.int .i64 0, .int .i64 105, .int .i64 107, .int .i64 12] 23)).alloc (.cells (st0.cs 3) 68) = w2 at HP HT1 HB1 ⊢
  rw [World.size_alloc]
  have HA := Lib.hid (ask_ok (w.heap.size + 1) 3 st0 4 7 w2 HP.out (by decide))
  go_wp2_with fail
  refine HA.out.mono ?_
  rintro e w3 ⟨rfl, hp, hk⟩
  have HP3 := Lib.hid hp
  have HT3 := Lib.hid (blk_kp HT1.out hk (fun h => by omega))
  have HB3 := Lib.hid (below_kp HB1.out HB1.out.size hk (fun k hk => by omega))
  clear hp hk HA
  have HB4 := Lib.hid (HB3.out.alloc HB3.out.size (.cells #[.int .i64 3, .int .i64 4, .int .i64 7] 36))
  have HX4 := Lib.hid (Blk.new w3 36 #[.int .i64 3, .int .i64 4, .int .i64 7])
  have HP4 := Lib.hid (HP3.out.alloc (.cells #[.int .i64 3, .int .i64 4, .int .i64 7] 36))
  have HT4 := Lib.hid (HT3.out.alloc (.cells #[.int .i64 3, .int .i64 4, .int .i64 7] 36))
  have hc := cells4 HT4.out
  obtain ⟨t0, t1, t2, t3⟩ := hc
  clear HP3 HT3 HB3 HP HT1 HB1
  go_wp2_with (first
    | (go_at_call 10; (with_reducible refine Calls.mono (HG.out _) ?_); rintro e w5 ⟨rfl, hb⟩; clear t0 t1 t2 t3; have HT5 := Lib.hid (HT4.out.keeps hb); have HP5 := Lib.hid (HP4.out.keeps hb); have HX5 := Lib.hid (HX4.out.keeps hb); have HB5 := Lib.hid (HB4.out.trans (hb.mono HB4.out.size)); have hc := cells4 HT5.out; obtain ⟨t0, t1, t2, t3⟩ := hc; clear hb)
    | (go_at_call 11; (with_reducible refine Calls.mono (HO.out _) ?_); rintro e w6 ⟨rfl, hb⟩; clear t0 t1 t2 t3; have HT6 := Lib.hid (HT5.out.keeps hb); have HP6 := Lib.hid (HP5.out.keeps hb); have HX6 := Lib.hid (HX5.out.keeps hb); have HB6 := Lib.hid (HB5.out.trans (hb.mono HB5.out.size)); have hc := cells4 HT6.out; obtain ⟨t0, t1, t2, t3⟩ := hc; clear hb)
    | (go_at_call 12; (with_reducible refine Calls.mono (HD.out _) ?_); rintro e w7 ⟨rfl, hb⟩; have HP7 := Lib.hid (HP6.out.keeps hb); have HX7 := Lib.hid (HX6.out.keeps hb); have HB7 := Lib.hid (HB6.out.trans (hb.mono HB6.out.size)); have hc := cells3 HX7.out; obtain ⟨x0, x1, x2, _, _, _⟩ := hc; clear hb)
    | (go_at_call 20; (with_reducible refine Calls.mono (waits_ok (w.heap.size + 1) 3 (asked st0 4 7) _ HP7.out) ?_); rintro e w8 ⟨rfl, rfl⟩))
  go_ret
  exact ⟨by first | rfl | decide, HB7.out⟩
end Go.Proofs.Ythnnejflgbminab.Pr
