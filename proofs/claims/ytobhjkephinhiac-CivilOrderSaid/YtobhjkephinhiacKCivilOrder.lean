/- Of two dates the later one has the greater number, and the greater text. No condition. -/
import Derived.Test.YtobhjkephinhiacCivilRef
import Derived.Test.YtobhjkephinhiacCivilLex
namespace Go.Proofs.Ytobhjkephinhiac.CivilOrderW
open Go.RowKit Go.Proofs.Ytobhjkephinhiac.Bk Go.Proofs.Ytobhjkephinhiac.Rw Go.Proofs.Ytobhjkephinhiac.Ow Go.Proofs.Ytobhjkephinhiac.Kp Go.Proofs.Ytobhjkephinhiac.Str Go.Proofs.Ytobhjkephinhiac.Civil

/-- The two dates' boxes, and all behind them. -/
structure Dz (W w : World) (y m d y' m' d' : Int) : Prop where
  a : Blk w W.heap.size 24 #[.int .i64 y, .int .i64 m, .int .i64 d]
  b : Blk w (W.heap.size + 1) 24 #[.int .i64 y', .int .i64 m', .int .i64 d']
  below : Below W.heap.size W w
theorem Dz.next {W w w' : World} {y m d y' m' d' : Int} (h : Dz W w y m d y' m' d') (hb : Below w.heap.size w w') : Dz W w' y m d y' m' d' := ⟨h.a.keeps hb, h.b.keeps hb, h.below.trans (hb.mono h.below.size)⟩
theorem Dz.drew {W w : World} {y m d y' m' d' : Int} (h : Dz W w y m d y' m' d') : Dz W w.drew y m d y' m' d' := ⟨h.a.drew, h.b.drew, below_drew_ h.below⟩
theorem Dz.cs {W w : World} {y m d y' m' d' : Int} (h : Dz W w y m d y' m' d') : w.cell? ⟨W.heap.size, 0, none⟩ = some (.int .i64 y) ∧ w.cell? ⟨W.heap.size, 1, none⟩ = some (.int .i64 m) ∧ w.cell? ⟨W.heap.size, 2, none⟩ = some (.int .i64 d) ∧ w.cell? ⟨W.heap.size + 1, 0, none⟩ = some (.int .i64 y') ∧ w.cell? ⟨W.heap.size + 1, 1, none⟩ = some (.int .i64 m') ∧ w.cell? ⟨W.heap.size + 1, 2, none⟩ = some (.int .i64 d') :=
  ⟨h.a.cell 0, h.a.cell 1, h.a.cell 2, h.b.cell 0, h.b.cell 1, h.b.cell 2⟩
theorem Dz.step {W w1 w3 : World} {y m d y' m' d' : Int} (hb : Below w1.heap.size w1 w3) (h : Dz W w1 y m d y' m' d') : Hid (Dz W w3 y m d y' m' d') ∧ (w3.cell? ⟨W.heap.size, 0, none⟩ = some (.int .i64 y) ∧ w3.cell? ⟨W.heap.size, 1, none⟩ = some (.int .i64 m) ∧ w3.cell? ⟨W.heap.size, 2, none⟩ = some (.int .i64 d) ∧ w3.cell? ⟨W.heap.size + 1, 0, none⟩ = some (.int .i64 y') ∧ w3.cell? ⟨W.heap.size + 1, 1, none⟩ = some (.int .i64 m') ∧ w3.cell? ⟨W.heap.size + 1, 2, none⟩ = some (.int .i64 d')) :=
  ⟨Lib.hid (h.next hb), (h.next hb).cs⟩
theorem Dz.start (W : World) (y m d y' m' d' : Int) : Dz W ((W.alloc (.cells #[.int .i64 y, .int .i64 m, .int .i64 d] 24)).alloc (.cells #[.int .i64 y', .int .i64 m', .int .i64 d'] 24)) y m d y' m' d' := by
  refine ⟨(Blk.new W 24 _).alloc _, ?_, ((Below.refl _ W).alloc (Nat.le_refl _) _).alloc (by simp) _⟩
  have h := Blk.new (W.alloc (.cells #[.int .i64 y, .int .i64 m, .int .i64 d] 24)) 24 #[.int .i64 y', .int .i64 m', .int .i64 d']
  rw [World.size_alloc] at h
  exact h

set_option maxRecDepth 100000 in
set_option maxHeartbeats 4000000 in
set_option linter.unusedVariables false in
theorem walk (a0_0 : Int) (a0_1 : Int) (a0_2 : Int) (a1_0 : Int) (a1_1 : Int) (a1_2 : Int) (W : World) (w0_0 : (Lit.int .i64 a0_0).wf = true) (w0_1 : (Lit.int .i64 a0_1).wf = true) (w0_2 : (Lit.int .i64 a0_2).wf = true) (w1_0 : (Lit.int .i64 a1_0).wf = true) (w1_1 : (Lit.int .i64 a1_1).wf = true) (w1_2 : (Lit.int .i64 a1_2).wf = true) :
    Calls Try.prog 4 #[.agg #[.int .i64 a0_0, .int .i64 a0_1, .int .i64 a0_2], .agg #[.int .i64 a1_0, .int .i64 a1_1, .int .i64 a1_2]] W fun e w' => e = .returned (.bool true) ∧ Below W.heap.size W w' := by
  clear w0_0 w0_1 w0_2 w1_0 w1_1 w1_2
  have GA := Lib.hid (fun w => refgood_ok a0_0 a0_1 a0_2 w)
  have GB := Lib.hid (fun w => refgood_ok a1_0 a1_1 a1_2 w)
  have HD := Lib.hid (Dz.start W a0_0 a0_1 a0_2 a1_0 a1_1 a1_2)
  cases ga : gd a0_0 a0_1 a0_2
  · rw [ga] at GA
    clear ga GB
    unfold date at GA
    go_enter Try.func4, Try.ntmps4
    go_wp2_with fail
    refine (alive_ok _).mono ?_
    rintro e w1 ⟨rfl, hb⟩
    obtain ⟨D1, c1⟩ := Dz.step hb HD.out
    clear hb HD
    go_wp2_with (go_at_call 12; with_reducible refine Calls.mono (GA.out _) ?_; rintro e w2 ⟨rfl, hb⟩; have D2 := Lib.hid (D1.out.next hb); clear hb)
    go_ret
    exact ⟨rfl, D2.out.below⟩
  cases gb : gd a1_0 a1_1 a1_2
  · rw [ga] at GA
    rw [gb] at GB
    clear ga gb
    unfold date at GA GB
    go_enter Try.func4, Try.ntmps4
    go_wp2_with fail
    refine (alive_ok _).mono ?_
    rintro e w1 ⟨rfl, hb⟩
    obtain ⟨D1, c1⟩ := Dz.step hb HD.out
    clear hb HD
    go_wp2_with fail
    refine (GA.out _).mono ?_
    rintro e w2 ⟨rfl, hb⟩
    obtain ⟨D2, c2⟩ := Dz.step hb D1.out
    clear hb D1 c1
    go_wp2_with fail
    refine (GB.out _).mono ?_
    rintro e w3 ⟨rfl, hb⟩
    obtain ⟨D3, c3⟩ := Dz.step hb D2.out
    clear hb D2 c2
    go_wp2
    go_ret
    exact ⟨rfl, D3.out.below⟩
  rw [ga] at GA
  rw [gb] at GB
  have NA := Lib.hid (fun w => num_ok a0_0 a0_1 a0_2 w ga)
  have NB := Lib.hid (fun w => num_ok a1_0 a1_1 a1_2 w gb)
  have TA := Lib.hid (fun w => text_ok a0_0 a0_1 a0_2 w ga)
  have TB := Lib.hid (fun w => text_ok a1_0 a1_1 a1_2 w gb)
  have HL := Lib.hid (tx_less ga gb)
  have HM := Lib.hid (tx_less gb ga)
  have HN := Lib.hid (fun h => nm_lt ga gb h)
  have HO := Lib.hid (fun h => nm_lt gb ga h)
  have HE := Lib.hid (fun h => tx_ne ga gb h)
  have HF := Lib.hid (fun h => tx_ne gb ga h)
  clear ga gb
  unfold date at GA GB NA NB TA TB
  rcases (by omega : (a1_0 < a0_0) ∨ (a0_0 = a1_0 ∧ a1_1 < a0_1) ∨ (a0_0 = a1_0 ∧ a0_1 = a1_1 ∧ a1_2 < a0_2) ∨ (a0_0 < a1_0) ∨ (a0_0 = a1_0 ∧ a0_1 < a1_1) ∨ (a0_0 = a1_0 ∧ a0_1 = a1_1 ∧ a0_2 < a1_2) ∨ (a0_0 = a1_0 ∧ a0_1 = a1_1 ∧ a0_2 = a1_2)) with h | h | h | h | h | h | h
  · have p0 : decide (a1_0 < a0_0) = true := decide_eq_true (by omega)
    have p1 : (a0_0 == a1_0) = false := beq_eq_false_iff_ne.mpr (by omega)
    have hlt := HO.out (by omega)
    have n1 : decide (nm a1_0 a1_1 a1_2 < nm a0_0 a0_1 a0_2) = true := decide_eq_true hlt
    have n2 : (nm a0_0 a0_1 a0_2 == nm a1_0 a1_1 a1_2) = false := beq_eq_false_iff_ne.mpr (by omega)
    have s1 : Op.bytesLess (str (tx a0_0 a0_1 a0_2)).toList (str (tx a1_0 a1_1 a1_2)).toList = false := by rw [HL.out]; exact decide_eq_false (by omega)
    have s2 := (HF.out (by omega)).2
    clear hlt
    clear h HN HO HE HF HL HM
    generalize nm a0_0 a0_1 a0_2 = na at NA n1 n2
    generalize nm a1_0 a1_1 a1_2 = nb at NB n1 n2
    generalize str (tx a0_0 a0_1 a0_2) = sa at TA s1 s2
    generalize str (tx a1_0 a1_1 a1_2) = sb at TB s1 s2
    go_enter Try.func4, Try.ntmps4
    go_wp2_with fail
    refine (alive_ok _).mono ?_
    rintro e w1 ⟨rfl, hb⟩
    obtain ⟨D1, c1⟩ := Dz.step hb HD.out
    clear hb HD
    go_wp2_with fail
    refine (GA.out _).mono ?_
    rintro e w2 ⟨rfl, hb⟩
    obtain ⟨D2, c2⟩ := Dz.step hb D1.out
    clear hb D1 c1
    go_wp2_with fail
    refine (GB.out _).mono ?_
    rintro e w3 ⟨rfl, hb⟩
    obtain ⟨D3, c3⟩ := Dz.step hb D2.out
    clear hb D2 c2
    go_wp2_with fail
    refine (NA.out _).mono ?_
    rintro e w4 ⟨rfl, hb⟩
    obtain ⟨D4, c4⟩ := Dz.step hb D3.out
    clear hb D3 c3
    go_wp2_with fail
    refine (NB.out _).mono ?_
    rintro e w5 ⟨rfl, hb⟩
    obtain ⟨D5, c5⟩ := Dz.step hb D4.out
    clear hb D4 c4
    go_wp2
    go_region_held3 (fun w' => w'.cell? ⟨W.heap.size, 0, none⟩ = some (.int .i64 a0_0) ∧ w'.cell? ⟨W.heap.size, 1, none⟩ = some (.int .i64 a0_1) ∧ w'.cell? ⟨W.heap.size, 2, none⟩ = some (.int .i64 a0_2) ∧ w'.cell? ⟨W.heap.size + 1, 0, none⟩ = some (.int .i64 a1_0) ∧ w'.cell? ⟨W.heap.size + 1, 1, none⟩ = some (.int .i64 a1_1) ∧ w'.cell? ⟨W.heap.size + 1, 2, none⟩ = some (.int .i64 a1_2)) (first | assumption | go_keep) (first | (go_at_call 11; with_reducible refine Calls.mono (TA.out _) ?_; rintro e w6 ⟨rfl, hb⟩; obtain ⟨D6, c6⟩ := Dz.step (W := W) (y := a0_0) (m := a0_1) (d := a0_2) (y' := a1_0) (m' := a1_1) (d' := a1_2) hb (by first | exact D5.out | exact Dz.drew D5.out); clear hb) | (go_at_call 11; with_reducible refine Calls.mono (TB.out _) ?_; rintro e w7 ⟨rfl, hb⟩; obtain ⟨D7, c7⟩ := Dz.step (W := W) (y := a0_0) (m := a0_1) (d := a0_2) (y' := a1_0) (m' := a1_1) (d' := a1_2) hb (by first | exact D6.out | exact Dz.drew D6.out); clear hb))
    all_goals
      go_wp2
      go_ret
      exact ⟨rfl, D7.out.below⟩
  · have p0 : decide (a1_0 < a0_0) = false := decide_eq_false (by omega)
    have p1 : (a0_0 == a1_0) = true := beq_iff_eq.mpr (by omega)
    have p2 : decide (a1_1 < a0_1) = true := decide_eq_true (by omega)
    have p3 : (a0_1 == a1_1) = false := beq_eq_false_iff_ne.mpr (by omega)
    have hlt := HO.out (by omega)
    have n1 : decide (nm a1_0 a1_1 a1_2 < nm a0_0 a0_1 a0_2) = true := decide_eq_true hlt
    have n2 : (nm a0_0 a0_1 a0_2 == nm a1_0 a1_1 a1_2) = false := beq_eq_false_iff_ne.mpr (by omega)
    have s1 : Op.bytesLess (str (tx a0_0 a0_1 a0_2)).toList (str (tx a1_0 a1_1 a1_2)).toList = false := by rw [HL.out]; exact decide_eq_false (by omega)
    have s2 := (HF.out (by omega)).2
    clear hlt
    clear h HN HO HE HF HL HM
    generalize nm a0_0 a0_1 a0_2 = na at NA n1 n2
    generalize nm a1_0 a1_1 a1_2 = nb at NB n1 n2
    generalize str (tx a0_0 a0_1 a0_2) = sa at TA s1 s2
    generalize str (tx a1_0 a1_1 a1_2) = sb at TB s1 s2
    go_enter Try.func4, Try.ntmps4
    go_wp2_with fail
    refine (alive_ok _).mono ?_
    rintro e w1 ⟨rfl, hb⟩
    obtain ⟨D1, c1⟩ := Dz.step hb HD.out
    clear hb HD
    go_wp2_with fail
    refine (GA.out _).mono ?_
    rintro e w2 ⟨rfl, hb⟩
    obtain ⟨D2, c2⟩ := Dz.step hb D1.out
    clear hb D1 c1
    go_wp2_with fail
    refine (GB.out _).mono ?_
    rintro e w3 ⟨rfl, hb⟩
    obtain ⟨D3, c3⟩ := Dz.step hb D2.out
    clear hb D2 c2
    go_wp2_with fail
    refine (NA.out _).mono ?_
    rintro e w4 ⟨rfl, hb⟩
    obtain ⟨D4, c4⟩ := Dz.step hb D3.out
    clear hb D3 c3
    go_wp2_with fail
    refine (NB.out _).mono ?_
    rintro e w5 ⟨rfl, hb⟩
    obtain ⟨D5, c5⟩ := Dz.step hb D4.out
    clear hb D4 c4
    go_wp2
    go_region_held3 (fun w' => w'.cell? ⟨W.heap.size, 0, none⟩ = some (.int .i64 a0_0) ∧ w'.cell? ⟨W.heap.size, 1, none⟩ = some (.int .i64 a0_1) ∧ w'.cell? ⟨W.heap.size, 2, none⟩ = some (.int .i64 a0_2) ∧ w'.cell? ⟨W.heap.size + 1, 0, none⟩ = some (.int .i64 a1_0) ∧ w'.cell? ⟨W.heap.size + 1, 1, none⟩ = some (.int .i64 a1_1) ∧ w'.cell? ⟨W.heap.size + 1, 2, none⟩ = some (.int .i64 a1_2)) (first | assumption | go_keep) (first | (go_at_call 11; with_reducible refine Calls.mono (TA.out _) ?_; rintro e w6 ⟨rfl, hb⟩; obtain ⟨D6, c6⟩ := Dz.step (W := W) (y := a0_0) (m := a0_1) (d := a0_2) (y' := a1_0) (m' := a1_1) (d' := a1_2) hb (by first | exact D5.out | exact Dz.drew D5.out); clear hb) | (go_at_call 11; with_reducible refine Calls.mono (TB.out _) ?_; rintro e w7 ⟨rfl, hb⟩; obtain ⟨D7, c7⟩ := Dz.step (W := W) (y := a0_0) (m := a0_1) (d := a0_2) (y' := a1_0) (m' := a1_1) (d' := a1_2) hb (by first | exact D6.out | exact Dz.drew D6.out); clear hb))
    all_goals
      go_wp2
      go_ret
      exact ⟨rfl, D7.out.below⟩
  · have p0 : decide (a1_0 < a0_0) = false := decide_eq_false (by omega)
    have p1 : (a0_0 == a1_0) = true := beq_iff_eq.mpr (by omega)
    have p2 : decide (a1_1 < a0_1) = false := decide_eq_false (by omega)
    have p3 : (a0_1 == a1_1) = true := beq_iff_eq.mpr (by omega)
    have p4 : decide (a1_2 < a0_2) = true := decide_eq_true (by omega)
    have p5 : (a0_2 == a1_2) = false := beq_eq_false_iff_ne.mpr (by omega)
    have hlt := HO.out (by omega)
    have n1 : decide (nm a1_0 a1_1 a1_2 < nm a0_0 a0_1 a0_2) = true := decide_eq_true hlt
    have n2 : (nm a0_0 a0_1 a0_2 == nm a1_0 a1_1 a1_2) = false := beq_eq_false_iff_ne.mpr (by omega)
    have s1 : Op.bytesLess (str (tx a0_0 a0_1 a0_2)).toList (str (tx a1_0 a1_1 a1_2)).toList = false := by rw [HL.out]; exact decide_eq_false (by omega)
    have s2 := (HF.out (by omega)).2
    clear hlt
    clear h HN HO HE HF HL HM
    generalize nm a0_0 a0_1 a0_2 = na at NA n1 n2
    generalize nm a1_0 a1_1 a1_2 = nb at NB n1 n2
    generalize str (tx a0_0 a0_1 a0_2) = sa at TA s1 s2
    generalize str (tx a1_0 a1_1 a1_2) = sb at TB s1 s2
    go_enter Try.func4, Try.ntmps4
    go_wp2_with fail
    refine (alive_ok _).mono ?_
    rintro e w1 ⟨rfl, hb⟩
    obtain ⟨D1, c1⟩ := Dz.step hb HD.out
    clear hb HD
    go_wp2_with fail
    refine (GA.out _).mono ?_
    rintro e w2 ⟨rfl, hb⟩
    obtain ⟨D2, c2⟩ := Dz.step hb D1.out
    clear hb D1 c1
    go_wp2_with fail
    refine (GB.out _).mono ?_
    rintro e w3 ⟨rfl, hb⟩
    obtain ⟨D3, c3⟩ := Dz.step hb D2.out
    clear hb D2 c2
    go_wp2_with fail
    refine (NA.out _).mono ?_
    rintro e w4 ⟨rfl, hb⟩
    obtain ⟨D4, c4⟩ := Dz.step hb D3.out
    clear hb D3 c3
    go_wp2_with fail
    refine (NB.out _).mono ?_
    rintro e w5 ⟨rfl, hb⟩
    obtain ⟨D5, c5⟩ := Dz.step hb D4.out
    clear hb D4 c4
    go_wp2
    go_region_held3 (fun w' => w'.cell? ⟨W.heap.size, 0, none⟩ = some (.int .i64 a0_0) ∧ w'.cell? ⟨W.heap.size, 1, none⟩ = some (.int .i64 a0_1) ∧ w'.cell? ⟨W.heap.size, 2, none⟩ = some (.int .i64 a0_2) ∧ w'.cell? ⟨W.heap.size + 1, 0, none⟩ = some (.int .i64 a1_0) ∧ w'.cell? ⟨W.heap.size + 1, 1, none⟩ = some (.int .i64 a1_1) ∧ w'.cell? ⟨W.heap.size + 1, 2, none⟩ = some (.int .i64 a1_2)) (first | assumption | go_keep) (first | (go_at_call 11; with_reducible refine Calls.mono (TA.out _) ?_; rintro e w6 ⟨rfl, hb⟩; obtain ⟨D6, c6⟩ := Dz.step (W := W) (y := a0_0) (m := a0_1) (d := a0_2) (y' := a1_0) (m' := a1_1) (d' := a1_2) hb (by first | exact D5.out | exact Dz.drew D5.out); clear hb) | (go_at_call 11; with_reducible refine Calls.mono (TB.out _) ?_; rintro e w7 ⟨rfl, hb⟩; obtain ⟨D7, c7⟩ := Dz.step (W := W) (y := a0_0) (m := a0_1) (d := a0_2) (y' := a1_0) (m' := a1_1) (d' := a1_2) hb (by first | exact D6.out | exact Dz.drew D6.out); clear hb))
    all_goals
      go_wp2
      go_ret
      exact ⟨rfl, D7.out.below⟩
  · have p0 : decide (a1_0 < a0_0) = false := decide_eq_false (by omega)
    have p1 : (a0_0 == a1_0) = false := beq_eq_false_iff_ne.mpr (by omega)
    have hlt := HN.out (by omega)
    have n1 : decide (nm a1_0 a1_1 a1_2 < nm a0_0 a0_1 a0_2) = false := decide_eq_false (by omega)
    have n2 : (nm a0_0 a0_1 a0_2 == nm a1_0 a1_1 a1_2) = false := beq_eq_false_iff_ne.mpr (by omega)
    have s1 : Op.bytesLess (str (tx a0_0 a0_1 a0_2)).toList (str (tx a1_0 a1_1 a1_2)).toList = true := by rw [HL.out]; exact decide_eq_true (by omega)
    have s2 := (HE.out (by omega)).1
    clear hlt
    clear h HN HO HE HF HL HM
    generalize nm a0_0 a0_1 a0_2 = na at NA n1 n2
    generalize nm a1_0 a1_1 a1_2 = nb at NB n1 n2
    generalize str (tx a0_0 a0_1 a0_2) = sa at TA s1 s2
    generalize str (tx a1_0 a1_1 a1_2) = sb at TB s1 s2
    go_enter Try.func4, Try.ntmps4
    go_wp2_with fail
    refine (alive_ok _).mono ?_
    rintro e w1 ⟨rfl, hb⟩
    obtain ⟨D1, c1⟩ := Dz.step hb HD.out
    clear hb HD
    go_wp2_with fail
    refine (GA.out _).mono ?_
    rintro e w2 ⟨rfl, hb⟩
    obtain ⟨D2, c2⟩ := Dz.step hb D1.out
    clear hb D1 c1
    go_wp2_with fail
    refine (GB.out _).mono ?_
    rintro e w3 ⟨rfl, hb⟩
    obtain ⟨D3, c3⟩ := Dz.step hb D2.out
    clear hb D2 c2
    go_wp2_with fail
    refine (NA.out _).mono ?_
    rintro e w4 ⟨rfl, hb⟩
    obtain ⟨D4, c4⟩ := Dz.step hb D3.out
    clear hb D3 c3
    go_wp2_with fail
    refine (NB.out _).mono ?_
    rintro e w5 ⟨rfl, hb⟩
    obtain ⟨D5, c5⟩ := Dz.step hb D4.out
    clear hb D4 c4
    go_wp2
    go_region_held3 (fun w' => w'.cell? ⟨W.heap.size, 0, none⟩ = some (.int .i64 a0_0) ∧ w'.cell? ⟨W.heap.size, 1, none⟩ = some (.int .i64 a0_1) ∧ w'.cell? ⟨W.heap.size, 2, none⟩ = some (.int .i64 a0_2) ∧ w'.cell? ⟨W.heap.size + 1, 0, none⟩ = some (.int .i64 a1_0) ∧ w'.cell? ⟨W.heap.size + 1, 1, none⟩ = some (.int .i64 a1_1) ∧ w'.cell? ⟨W.heap.size + 1, 2, none⟩ = some (.int .i64 a1_2)) (first | assumption | go_keep) (first | (go_at_call 11; with_reducible refine Calls.mono (TA.out _) ?_; rintro e w6 ⟨rfl, hb⟩; obtain ⟨D6, c6⟩ := Dz.step (W := W) (y := a0_0) (m := a0_1) (d := a0_2) (y' := a1_0) (m' := a1_1) (d' := a1_2) hb (by first | exact D5.out | exact Dz.drew D5.out); clear hb) | (go_at_call 11; with_reducible refine Calls.mono (TB.out _) ?_; rintro e w7 ⟨rfl, hb⟩; obtain ⟨D7, c7⟩ := Dz.step (W := W) (y := a0_0) (m := a0_1) (d := a0_2) (y' := a1_0) (m' := a1_1) (d' := a1_2) hb (by first | exact D6.out | exact Dz.drew D6.out); clear hb))
    all_goals
      go_wp2
      go_ret
      exact ⟨rfl, D7.out.below⟩
  · have p0 : decide (a1_0 < a0_0) = false := decide_eq_false (by omega)
    have p1 : (a0_0 == a1_0) = true := beq_iff_eq.mpr (by omega)
    have p2 : decide (a1_1 < a0_1) = false := decide_eq_false (by omega)
    have p3 : (a0_1 == a1_1) = false := beq_eq_false_iff_ne.mpr (by omega)
    have hlt := HN.out (by omega)
    have n1 : decide (nm a1_0 a1_1 a1_2 < nm a0_0 a0_1 a0_2) = false := decide_eq_false (by omega)
    have n2 : (nm a0_0 a0_1 a0_2 == nm a1_0 a1_1 a1_2) = false := beq_eq_false_iff_ne.mpr (by omega)
    have s1 : Op.bytesLess (str (tx a0_0 a0_1 a0_2)).toList (str (tx a1_0 a1_1 a1_2)).toList = true := by rw [HL.out]; exact decide_eq_true (by omega)
    have s2 := (HE.out (by omega)).1
    clear hlt
    clear h HN HO HE HF HL HM
    generalize nm a0_0 a0_1 a0_2 = na at NA n1 n2
    generalize nm a1_0 a1_1 a1_2 = nb at NB n1 n2
    generalize str (tx a0_0 a0_1 a0_2) = sa at TA s1 s2
    generalize str (tx a1_0 a1_1 a1_2) = sb at TB s1 s2
    go_enter Try.func4, Try.ntmps4
    go_wp2_with fail
    refine (alive_ok _).mono ?_
    rintro e w1 ⟨rfl, hb⟩
    obtain ⟨D1, c1⟩ := Dz.step hb HD.out
    clear hb HD
    go_wp2_with fail
    refine (GA.out _).mono ?_
    rintro e w2 ⟨rfl, hb⟩
    obtain ⟨D2, c2⟩ := Dz.step hb D1.out
    clear hb D1 c1
    go_wp2_with fail
    refine (GB.out _).mono ?_
    rintro e w3 ⟨rfl, hb⟩
    obtain ⟨D3, c3⟩ := Dz.step hb D2.out
    clear hb D2 c2
    go_wp2_with fail
    refine (NA.out _).mono ?_
    rintro e w4 ⟨rfl, hb⟩
    obtain ⟨D4, c4⟩ := Dz.step hb D3.out
    clear hb D3 c3
    go_wp2_with fail
    refine (NB.out _).mono ?_
    rintro e w5 ⟨rfl, hb⟩
    obtain ⟨D5, c5⟩ := Dz.step hb D4.out
    clear hb D4 c4
    go_wp2
    go_region_held3 (fun w' => w'.cell? ⟨W.heap.size, 0, none⟩ = some (.int .i64 a0_0) ∧ w'.cell? ⟨W.heap.size, 1, none⟩ = some (.int .i64 a0_1) ∧ w'.cell? ⟨W.heap.size, 2, none⟩ = some (.int .i64 a0_2) ∧ w'.cell? ⟨W.heap.size + 1, 0, none⟩ = some (.int .i64 a1_0) ∧ w'.cell? ⟨W.heap.size + 1, 1, none⟩ = some (.int .i64 a1_1) ∧ w'.cell? ⟨W.heap.size + 1, 2, none⟩ = some (.int .i64 a1_2)) (first | assumption | go_keep) (first | (go_at_call 11; with_reducible refine Calls.mono (TA.out _) ?_; rintro e w6 ⟨rfl, hb⟩; obtain ⟨D6, c6⟩ := Dz.step (W := W) (y := a0_0) (m := a0_1) (d := a0_2) (y' := a1_0) (m' := a1_1) (d' := a1_2) hb (by first | exact D5.out | exact Dz.drew D5.out); clear hb) | (go_at_call 11; with_reducible refine Calls.mono (TB.out _) ?_; rintro e w7 ⟨rfl, hb⟩; obtain ⟨D7, c7⟩ := Dz.step (W := W) (y := a0_0) (m := a0_1) (d := a0_2) (y' := a1_0) (m' := a1_1) (d' := a1_2) hb (by first | exact D6.out | exact Dz.drew D6.out); clear hb))
    all_goals
      go_wp2
      go_ret
      exact ⟨rfl, D7.out.below⟩
  · have p0 : decide (a1_0 < a0_0) = false := decide_eq_false (by omega)
    have p1 : (a0_0 == a1_0) = true := beq_iff_eq.mpr (by omega)
    have p2 : decide (a1_1 < a0_1) = false := decide_eq_false (by omega)
    have p3 : (a0_1 == a1_1) = true := beq_iff_eq.mpr (by omega)
    have p4 : decide (a1_2 < a0_2) = false := decide_eq_false (by omega)
    have p5 : (a0_2 == a1_2) = false := beq_eq_false_iff_ne.mpr (by omega)
    have hlt := HN.out (by omega)
    have n1 : decide (nm a1_0 a1_1 a1_2 < nm a0_0 a0_1 a0_2) = false := decide_eq_false (by omega)
    have n2 : (nm a0_0 a0_1 a0_2 == nm a1_0 a1_1 a1_2) = false := beq_eq_false_iff_ne.mpr (by omega)
    have s1 : Op.bytesLess (str (tx a0_0 a0_1 a0_2)).toList (str (tx a1_0 a1_1 a1_2)).toList = true := by rw [HL.out]; exact decide_eq_true (by omega)
    have s2 := (HE.out (by omega)).1
    clear hlt
    clear h HN HO HE HF HL HM
    generalize nm a0_0 a0_1 a0_2 = na at NA n1 n2
    generalize nm a1_0 a1_1 a1_2 = nb at NB n1 n2
    generalize str (tx a0_0 a0_1 a0_2) = sa at TA s1 s2
    generalize str (tx a1_0 a1_1 a1_2) = sb at TB s1 s2
    go_enter Try.func4, Try.ntmps4
    go_wp2_with fail
    refine (alive_ok _).mono ?_
    rintro e w1 ⟨rfl, hb⟩
    obtain ⟨D1, c1⟩ := Dz.step hb HD.out
    clear hb HD
    go_wp2_with fail
    refine (GA.out _).mono ?_
    rintro e w2 ⟨rfl, hb⟩
    obtain ⟨D2, c2⟩ := Dz.step hb D1.out
    clear hb D1 c1
    go_wp2_with fail
    refine (GB.out _).mono ?_
    rintro e w3 ⟨rfl, hb⟩
    obtain ⟨D3, c3⟩ := Dz.step hb D2.out
    clear hb D2 c2
    go_wp2_with fail
    refine (NA.out _).mono ?_
    rintro e w4 ⟨rfl, hb⟩
    obtain ⟨D4, c4⟩ := Dz.step hb D3.out
    clear hb D3 c3
    go_wp2_with fail
    refine (NB.out _).mono ?_
    rintro e w5 ⟨rfl, hb⟩
    obtain ⟨D5, c5⟩ := Dz.step hb D4.out
    clear hb D4 c4
    go_wp2
    go_region_held3 (fun w' => w'.cell? ⟨W.heap.size, 0, none⟩ = some (.int .i64 a0_0) ∧ w'.cell? ⟨W.heap.size, 1, none⟩ = some (.int .i64 a0_1) ∧ w'.cell? ⟨W.heap.size, 2, none⟩ = some (.int .i64 a0_2) ∧ w'.cell? ⟨W.heap.size + 1, 0, none⟩ = some (.int .i64 a1_0) ∧ w'.cell? ⟨W.heap.size + 1, 1, none⟩ = some (.int .i64 a1_1) ∧ w'.cell? ⟨W.heap.size + 1, 2, none⟩ = some (.int .i64 a1_2)) (first | assumption | go_keep) (first | (go_at_call 11; with_reducible refine Calls.mono (TA.out _) ?_; rintro e w6 ⟨rfl, hb⟩; obtain ⟨D6, c6⟩ := Dz.step (W := W) (y := a0_0) (m := a0_1) (d := a0_2) (y' := a1_0) (m' := a1_1) (d' := a1_2) hb (by first | exact D5.out | exact Dz.drew D5.out); clear hb) | (go_at_call 11; with_reducible refine Calls.mono (TB.out _) ?_; rintro e w7 ⟨rfl, hb⟩; obtain ⟨D7, c7⟩ := Dz.step (W := W) (y := a0_0) (m := a0_1) (d := a0_2) (y' := a1_0) (m' := a1_1) (d' := a1_2) hb (by first | exact D6.out | exact Dz.drew D6.out); clear hb))
    all_goals
      go_wp2
      go_ret
      exact ⟨rfl, D7.out.below⟩
  · have p0 : decide (a1_0 < a0_0) = false := decide_eq_false (by omega)
    have p1 : (a0_0 == a1_0) = true := beq_iff_eq.mpr (by omega)
    have p2 : decide (a1_1 < a0_1) = false := decide_eq_false (by omega)
    have p3 : (a0_1 == a1_1) = true := beq_iff_eq.mpr (by omega)
    have p4 : decide (a1_2 < a0_2) = false := decide_eq_false (by omega)
    have p5 : (a0_2 == a1_2) = true := beq_iff_eq.mpr (by omega)
    obtain ⟨e0, e1, e2⟩ := h
    have n1 : decide (nm a1_0 a1_1 a1_2 < nm a0_0 a0_1 a0_2) = false := decide_eq_false (by rw [e0, e1, e2]; omega)
    have n2 : (nm a0_0 a0_1 a0_2 == nm a1_0 a1_1 a1_2) = true := beq_iff_eq.mpr (by rw [e0, e1, e2])
    have s1 : Op.bytesLess (str (tx a0_0 a0_1 a0_2)).toList (str (tx a1_0 a1_1 a1_2)).toList = false := by rw [HL.out]; exact decide_eq_false (by omega)
    have s2 : ((str (tx a0_0 a0_1 a0_2)).toList == (str (tx a1_0 a1_1 a1_2)).toList) = true := by rw [e0, e1, e2]; exact beq_self_eq_true _
    have h : True := trivial
    clear e0 e1 e2
    clear h HN HO HE HF HL HM
    generalize nm a0_0 a0_1 a0_2 = na at NA n1 n2
    generalize nm a1_0 a1_1 a1_2 = nb at NB n1 n2
    generalize str (tx a0_0 a0_1 a0_2) = sa at TA s1 s2
    generalize str (tx a1_0 a1_1 a1_2) = sb at TB s1 s2
    go_enter Try.func4, Try.ntmps4
    go_wp2_with fail
    refine (alive_ok _).mono ?_
    rintro e w1 ⟨rfl, hb⟩
    obtain ⟨D1, c1⟩ := Dz.step hb HD.out
    clear hb HD
    go_wp2_with fail
    refine (GA.out _).mono ?_
    rintro e w2 ⟨rfl, hb⟩
    obtain ⟨D2, c2⟩ := Dz.step hb D1.out
    clear hb D1 c1
    go_wp2_with fail
    refine (GB.out _).mono ?_
    rintro e w3 ⟨rfl, hb⟩
    obtain ⟨D3, c3⟩ := Dz.step hb D2.out
    clear hb D2 c2
    go_wp2_with fail
    refine (NA.out _).mono ?_
    rintro e w4 ⟨rfl, hb⟩
    obtain ⟨D4, c4⟩ := Dz.step hb D3.out
    clear hb D3 c3
    go_wp2_with fail
    refine (NB.out _).mono ?_
    rintro e w5 ⟨rfl, hb⟩
    obtain ⟨D5, c5⟩ := Dz.step hb D4.out
    clear hb D4 c4
    go_wp2
    go_region_held3 (fun w' => w'.cell? ⟨W.heap.size, 0, none⟩ = some (.int .i64 a0_0) ∧ w'.cell? ⟨W.heap.size, 1, none⟩ = some (.int .i64 a0_1) ∧ w'.cell? ⟨W.heap.size, 2, none⟩ = some (.int .i64 a0_2) ∧ w'.cell? ⟨W.heap.size + 1, 0, none⟩ = some (.int .i64 a1_0) ∧ w'.cell? ⟨W.heap.size + 1, 1, none⟩ = some (.int .i64 a1_1) ∧ w'.cell? ⟨W.heap.size + 1, 2, none⟩ = some (.int .i64 a1_2)) (first | assumption | go_keep) (first | (go_at_call 11; with_reducible refine Calls.mono (TA.out _) ?_; rintro e w6 ⟨rfl, hb⟩; obtain ⟨D6, c6⟩ := Dz.step (W := W) (y := a0_0) (m := a0_1) (d := a0_2) (y' := a1_0) (m' := a1_1) (d' := a1_2) hb (by first | exact D5.out | exact Dz.drew D5.out); clear hb) | (go_at_call 11; with_reducible refine Calls.mono (TB.out _) ?_; rintro e w7 ⟨rfl, hb⟩; obtain ⟨D7, c7⟩ := Dz.step (W := W) (y := a0_0) (m := a0_1) (d := a0_2) (y' := a1_0) (m' := a1_1) (d' := a1_2) hb (by first | exact D6.out | exact Dz.drew D6.out); clear hb))
    all_goals
      go_wp2
      go_ret
      exact ⟨rfl, D7.out.below⟩
end Go.Proofs.Ytobhjkephinhiac.CivilOrderW
