/- The reference's Hear. -/
import Derived.Test.YthnnejflgbminaaRf2
import Derived.Deep.DeepCutAuto
namespace Go.Proofs.Ythnnejflgbminaa.El
open Go.RowKit Go.Proofs.Ythnnejflgbminaa.Bk Go.Proofs.Ythnnejflgbminaa.Rw Go.Proofs.Ythnnejflgbminaa.Ow Go.Proofs.Ythnnejflgbminaa.Kp Go.Proofs.Ythnnejflgbminaa.Sq Go.Proofs.Ythnnejflgbminaa.Ck Go.Proofs.Ythnnejflgbminaa.Ck2 Go.Proofs.Ythnnejflgbminaa.Mp

theorem Cs.some {w : World} {b n : Nat} {t : TypeId} {c : Nat → Value} (h : Cs w b t n c) {i : Nat} (hi : i < n) : ∃ v, w.cell? ⟨b, i, none⟩ = Option.some v := ⟨_, h.cell hi⟩
/-- What always holds of the marks. -/
structure FOk (me : Int) (s : St) (f : Int → Option (Int × Int)) : Prop where
  u : ∀ x o, f x = some o → U16 o
  k : 0 ≤ s.root → s.root ≠ me → (f s.root).isSome = true
theorem FOk.st0 (me b : Int) : FOk me (st0 b) (fun _ => none) := ⟨fun _ _ h => (nomatch h), fun h => (by simp [El.st0] at h)⟩
theorem FOk.beat {me t g : Int} {s : St} {f : Int → Option (Int × Int)} (h : FOk me s f) : FOk me (beat me t g s).2 f := by
  obtain ⟨h1, h2⟩ := h
  unfold El.beat
  split
  · exact ⟨h1, h2⟩
  · split
    · exact ⟨h1, h2⟩
    · exact ⟨h1, fun _ h => absurd rfl h⟩
theorem FOk.issue {me : Int} {s : St} {f : Int → Option (Int × Int)} (h : FOk me s f) : FOk me (issue me s).2.2 f := by
  obtain ⟨h1, h2⟩ := h
  unfold El.issue
  split
  · exact ⟨h1, h2⟩
  · exact ⟨h1, h2⟩
theorem FOk.hear {me r : Int} {s : St} {f : Int → Option (Int × Int)} {m : Int × Int} (h : FOk me s f) (hm : U16 m) : FOk me (hear me s f r m).2.1 (hear me s f r m).2.2 := by
  obtain ⟨h1, h2⟩ := h
  unfold El.hear
  split
  · refine ⟨fun x o hx => ?_, fun _ _ => by simp [Mp.put]⟩
    unfold Mp.put at hx
    dsimp only at hx
    split at hx
    · injection hx with hx
      exact hx ▸ hm
    · exact h1 x o hx
  · exact ⟨h1, h2⟩

set_option maxRecDepth 100000 in
theorem rhear_no (r : Nat) (me t g a b q : Int) (s : St) (f : Int → Option (Int × Int)) (w : World) (h : Re w r me t g s f) (hs : StOk me t g s) (hm : mayb me s a = false) :
    Calls Try.prog 21 #[.pointer (some ⟨r, 0, none⟩), .int .i64 a, .int .u16 b, .int .u16 q] w fun e w' => e = .returned (.int .i64 0) ∧ Re w' r me t g s f ∧ Kp (fun k => k = r) w w' := by
  have hc := h.cells
  obtain ⟨c0, c1, c2, c3, c4, c5, c6, c7⟩ := hc
  have HW := Lib.hid (show Re w r me t g s f ∧ Kp (fun k => k = r) w w from ⟨h, Kp.refl _ _⟩)
  have HW1 := Lib.hid (show Re w.drew r me t g s f ∧ Kp (fun k => k = r) w w.drew from ⟨h.drew, (Kp.refl _ _).drew⟩)
  have HW2 := Lib.hid (show Re w.drew.drew r me t g s f ∧ Kp (fun k => k = r) w w.drew.drew from ⟨h.drew.drew, (Kp.refl _ _).drew.drew⟩)
  have q0 := hs.q0
  unfold mayb at hm
  by_cases h0 : a < 0
  · clear hm h hs
    go_enter Try.func21, Try.ntmps21
    go_wp2
    go_ret
    exact ⟨rfl, HW.out⟩
  by_cases h1 : me ≤ a
  · clear hm h hs
    go_enter Try.func21, Try.ntmps21
    go_wp2
    go_ret
    exact ⟨rfl, HW.out⟩
  rw [if_neg (by omega)] at hm
  rcases he : s.root == me with _ | _
  · rw [he] at hm
    simp only [Bool.false_eq_true, if_false, Bool.or_eq_false_iff, decide_eq_false_iff_not] at hm
    obtain ⟨m1, m2⟩ := hm
    have d1 : decide (0 ≤ s.root) = true := by simp; omega
    have d2 : decide (s.root < a) = true := by simp; omega
    have d3 : (s.root != me) = true := by simp only [bne, he]; rfl
    clear h hs
    go_enter Try.func21, Try.ntmps21
    go_wp2_with fail
    go_region
    go_wp2_with fail
    go_region
    go_wp2
    go_ret
    exact ⟨rfl, HW2.out⟩
  · rw [he] at hm
    simp only [if_true, beq_eq_false_iff_ne, ne_eq] at hm
    have d1 : decide (0 < s.quiet) = true := by simp; omega
    clear h hs
    go_enter Try.func21, Try.ntmps21
    go_wp2_with fail
    go_region
    go_wp2
    go_ret
    exact ⟨rfl, HW1.out⟩
set_option maxRecDepth 100000 in
set_option maxHeartbeats 2000000 in
theorem rhear_yes (r : Nat) (me t g a b q : Int) (s : St) (f : Int → Option (Int × Int)) (w : World) (h : Re w r me t g s f) (hru : RuOk me t g) (hf : FOk me s f) (hu : U16 (b, q)) (hm : mayb me s a = true) :
    Calls Try.prog 21 #[.pointer (some ⟨r, 0, none⟩), .int .i64 a, .int .u16 b, .int .u16 q] w fun e w' => e = .returned (.int .i64 (hear me s f a (b, q)).1) ∧ Re w' r me t g (hear me s f a (b, q)).2.1 (hear me s f a (b, q)).2.2 ∧ Kp (fun k => k = r) w w' := by
  have hl := mayb_lt hm
  have m1 := hru.m1
  obtain ⟨x, rfl⟩ : ∃ x : Nat, a = x := ⟨a.toNat, by omega⟩
  have hx : x < 64 := by omega
  have hc := h.cells
  obtain ⟨c0, c1, c2, c3, c4, c5, c6, c7⟩ := hc
  have hmay : (s.root == me) = true ∧ decide (0 < s.quiet) = false ∨ (s.root == me) = false ∧ decide (s.root < 0) = true ∧ decide (0 ≤ s.root) = false ∨ (s.root == me) = false ∧ (s.root != me) = true ∧ decide (0 ≤ s.root) = true ∧ decide (s.root < (x : Int)) = false := by
    unfold mayb at hm
    rw [if_neg (by omega)] at hm
    rcases he : s.root == me with _ | _
    · right
      rw [he] at hm
      simp only [Bool.false_eq_true, if_false, Bool.or_eq_true, decide_eq_true_eq] at hm
      by_cases h0 : s.root < 0
      · left
        exact ⟨rfl, by simpa using h0, by simp; omega⟩
      · right
        exact ⟨rfl, by simp only [bne, he]; rfl, by simp; omega, by simp; omega⟩
    · left
      rw [he] at hm
      simp only [if_true, beq_iff_eq] at hm
      exact ⟨rfl, by simp; omega⟩
  have n0 : ¬ ((x : Int) < 0) := by omega
  have n1 : ¬ (me ≤ (x : Int)) := by omega
  have n2 : (x : Int) < 64 := by omega
  obtain ⟨v, s2, f2, hh⟩ : ∃ v s2 f2, hear me s f x (b, q) = (v, s2, f2) := ⟨_, _, _, rfl⟩
  rw [hh]
  dsimp only
  have HH := Lib.hid hh
  clear hh
  have H := Lib.hid h
  have HF := Lib.hid hf
  have HU := Lib.hid hu
  have HM := Lib.hid hm
  have HL := Lib.hid hl
  clear h hf hu hm hl m1 hru
  go_enter Try.func21, Try.ntmps21
  go_upto_region 3 with fail
  go_cut [35] (fun v wx => v = .bool false ∧ wx = w.drew)
  case first =>
    rcases hmay with ⟨e1, e2⟩ | ⟨e1, e2, e3⟩ | ⟨e1, e2, e3, e4⟩
    all_goals
      go_region
      go_wp2
      go_meet
      exact ⟨rfl, rfl⟩
  case rest =>
    obtain ⟨rfl, rfl⟩ := hcut
    go_upto_region 5 with fail
    go_cut [59] (fun v wx => v = .bool false ∧ wx = w.drew.drew)
    case first =>
      rcases hmay with ⟨e1, e2⟩ | ⟨e1, e2, e3⟩ | ⟨e1, e2, e3, e4⟩
      · have d1 : decide (0 ≤ s.root) = true := by have := HL.out; simp only [beq_iff_eq] at e1; simp; omega
        have d2 : (s.root != me) = false := by simp only [bne, e1]; rfl
        go_region
        go_wp2
        go_meet
        exact ⟨rfl, rfl⟩
      · go_region
        go_wp2
        go_meet
        exact ⟨rfl, rfl⟩
      · go_region
        go_wp2
        go_meet
        exact ⟨rfl, rfl⟩
    case rest =>
      obtain ⟨rfl, rfl⟩ := hcut
      have H2 := Lib.hid H.out.drew.drew
      have HK2 := Lib.hid (show Kp (fun k => k = r) w w.drew.drew from (Kp.refl _ _).drew.drew)
      clear c0 c1 c2 c3 c4 c5 c6 c7 H
      generalize w.drew.drew = w1 at H2 HK2 ⊢
      clear hmay
      have hc := H2.out.drew.cells
      obtain ⟨c0, c1, c2, c3, c4, c5, c6, c7⟩ := hc
      rcases ho : f x with _ | o
      · have hk := H2.out.drew.known hx
        have hb := H2.out.drew.boots hx
        rw [ho] at hk hb
        dsimp only [Option.isSome_none, Option.getD_none] at hk hb
        have hne : (s.root != (x : Int)) = true := by
          have hl := HL.out
          simp only [bne_iff_ne, ne_eq]
          intro e
          have := HF.out.k (by omega) (by omega)
          rw [e, ho] at this
          cases this
        have he : hear me s f x (b, q) = (2, { s with root := x, beats := 0, quiet := 0 }, put f x (b, q)) := by
          unfold hear takes
          rw [HM.out, ho]
          simp [hmv, hne]
        have he2 := HH.out.symm.trans he
        simp only [Prod.mk.injEq] at he2
        obtain ⟨rfl, rfl, rfl⟩ := he2
        clear he HH
        go_wp2_with fail
        refine wp_region_seq [(0, true), (1, true), (2, true), (3, true), (4, true), (5, true), (6, true), (7, true), (8, true), (9, true), (10, true), (11, true), (12, true), (13, true), (14, true), (15, true), (16, true), (17, true), (18, true), (19, true), (20, true), (21, false), (22, true), (23, true)] (fun w' => w'.cell? ⟨r, 8 + x, none⟩ = some (.bool false)) (by kernel_rfl) (by kernel_rfl) hk (fun hHeld => ?_)
        simp only [List.map_cons, List.map_nil, List.getElem?_toArray, List.getElem?_cons_zero, List.getElem?_cons_succ]
        repeat (first | (refine seq_skip (by rfl) ?_; try simp only [Act.put, List.setIfInBounds_toArray, List.set_cons_zero, List.set_cons_succ]) | (refine seq_not (by rfl) (by assumption) ?_; try simp only [Act.put, List.setIfInBounds_toArray, List.set_cons_zero, List.set_cons_succ]) | (refine seq_take (v := ?_) (by rfl) ?_ ?_; rotate_left; (focus ((intro w hSw; (try dsimp only at hSw); go_simp; (try with_reducible rfl)); done)); try simp only [Act.put, List.setIfInBounds_toArray, List.set_cons_zero, List.set_cons_succ]))
        refine seq_done ?_
        clear hHeld
        have H3 := Lib.hid H2.out.drew
        have HK3 := Lib.hid HK2.out.drew
        clear c0 c1 c2 c3 c4 c5 c6 c7 H2 HK2
        clear hk hb
        try clear hq
        generalize w1.drew = w2 at H3 HK3 ⊢
        have c5 := H3.out.cells.2.2.2.2.2.1
        have hk := H3.out.known hx
        have hb := H3.out.boots hx
        rw [ho] at hk hb
        dsimp only [Option.isSome_none, Option.getD_none, Option.isSome_some, Option.getD_some] at hk hb
        go_upto_region 12 with fail
        clear c5 hb
        have fz := H3.out.frozen (8 + x)
        go_upto_region 13 with fail
        clear hk fz
        obtain ⟨w3, h3⟩ : ∃ w3, w2.setCell ⟨r, 8 + x, none⟩ (.bool true) = w3 := ⟨_, rfl⟩
        rw [h3]
        have HC3 := Lib.hid (h3 ▸ Cs.set H3.out (8 + x) (.bool true))
        have HW3 := Lib.hid h3
        clear h3
        obtain ⟨v, hv⟩ := HC3.out.some (i := 72 + x) (by omega)
        have fz := HC3.out.frozen (72 + x)
        go_upto_region 14 with fail
        clear hv fz v
        obtain ⟨w4, h4⟩ : ∃ w4, w3.setCell ⟨r, 72 + x, none⟩ (.int .u16 b) = w4 := ⟨_, rfl⟩
        rw [h4]
        have HC4 := Lib.hid (h4 ▸ Cs.set HC3.out (72 + x) (.int .u16 b))
        have HW4 := Lib.hid h4
        clear h4
        obtain ⟨v, hv⟩ := HC4.out.some (i := 136 + x) (by omega)
        have fz := HC4.out.frozen (136 + x)
        go_upto_region 15 with fail
        clear hv fz v
        have H5 := Lib.hid (H3.out.put x hx (b, q))
        rw [HW3.out, HW4.out] at H5
        have HK5 := Lib.hid (show Kp (fun k => k = r) w (w4.setCell ⟨r, 136 + x, none⟩ (.int .u16 q)) by
          have h3 := HW3.out
          have h4 := HW4.out
          have hk := HK3.out
          subst h3 h4
          (repeat (first | (with_reducible assumption) | (with_reducible apply Kp.drew) | ((with_reducible apply kp_set); (focus (first | exact .inl rfl | (right; (try simp only [size_set, size_drew, World.size_alloc]); omega)))) | (with_reducible apply Kp.alloc) | (with_reducible exact Kp.refl _ _))))
        clear HC3 HC4 HW3 HW4 H3 HK3
        generalize w4.setCell ⟨r, 136 + x, none⟩ (.int .u16 q) = w5 at H5 HK5 ⊢
        have c5 := H5.out.cells.2.2.2.2.2.1
        have f5 := H5.out.frozen 5
        go_upto_region 16 with fail
        clear c5 f5
        have H6 := Lib.hid (H5.out.root x)
        have HK6 := Lib.hid (show Kp (fun k => k = r) w (w5.setCell ⟨r, 5, none⟩ (.int .i64 x)) by have hk := HK5.out; (repeat (first | (with_reducible assumption) | (with_reducible apply Kp.drew) | ((with_reducible apply kp_set); (focus (first | exact .inl rfl | (right; (try simp only [size_set, size_drew, World.size_alloc]); omega)))) | (with_reducible apply Kp.alloc) | (with_reducible exact Kp.refl _ _))))
        clear H5 HK5
        generalize w5.setCell ⟨r, 5, none⟩ (.int .i64 x) = w6 at H6 HK6 ⊢
        have c6 := H6.out.cells.2.2.2.2.2.2.1
        have f6 := H6.out.frozen 6
        go_upto_region 17 with fail
        clear c6 f6
        have H7 := Lib.hid (H6.out.beats 0)
        have HK7 := Lib.hid (show Kp (fun k => k = r) w (w6.setCell ⟨r, 6, none⟩ (.int .i64 0)) by have hk := HK6.out; (repeat (first | (with_reducible assumption) | (with_reducible apply Kp.drew) | ((with_reducible apply kp_set); (focus (first | exact .inl rfl | (right; (try simp only [size_set, size_drew, World.size_alloc]); omega)))) | (with_reducible apply Kp.alloc) | (with_reducible exact Kp.refl _ _))))
        clear H6 HK6
        generalize w6.setCell ⟨r, 6, none⟩ (.int .i64 0) = w7 at H7 HK7 ⊢
        have c7 := H7.out.cells.2.2.2.2.2.2.2
        have f7 := H7.out.frozen 7
        go_wp2
        go_ret
        have hk := HK7.out
        exact ⟨rfl, H7.out.quiet 0, by (repeat (first | (with_reducible assumption) | (with_reducible apply Kp.drew) | ((with_reducible apply kp_set); (focus (first | exact .inl rfl | (right; (try simp only [size_set, size_drew, World.size_alloc]); omega)))) | (with_reducible apply Kp.alloc) | (with_reducible exact Kp.refl _ _)))⟩
      · have hk := H2.out.drew.known hx
        have hb := H2.out.drew.boots hx
        have hq := H2.out.drew.seqs hx
        rw [ho] at hk hb hq
        obtain ⟨o1, o2⟩ := o
        dsimp only [Option.isSome_some, Option.getD_some] at hk hb hq
        have C := Lib.hid (fun w => show Calls Try.prog 11 #[.int .u16 b, .int .u16 q, .int .u16 o1, .int .u16 o2] w fun e w' => e = .returned (.bool (nwm (b, q) (o1, o2))) ∧ w = w' from rnewer_ok (b, q) (o1, o2) HU.out (HF.out.u x _ ho) w)
        obtain ⟨n, hn⟩ : ∃ n, nwm (b, q) (o1, o2) = n := ⟨_, rfl⟩
        rw [hn] at C
        cases n with
        | false =>
          have he : hear me s f x (b, q) = (0, s, f) := by
            apply hear_not
            unfold takes
            rw [ho]
            simp only [hn, Bool.and_false]
          clear hn
          as_aux_lemma =>
            have he2 := HH.out.symm.trans he
            simp only [Prod.mk.injEq] at he2
            obtain ⟨rfl, rfl, rfl⟩ := he2
            clear he HH
            go_wp2_with fail
            refine wp_region_seq [(0, true), (1, true), (2, true), (3, true), (4, true), (5, true), (6, true), (7, true), (8, true), (9, true), (10, true), (11, true), (12, true), (13, true), (14, true), (15, true), (16, true), (17, true), (18, true), (19, true), (20, true), (21, false), (22, true), (23, true)] (fun w' => w'.cell? ⟨r, 8 + x, none⟩ = some (.bool true) ∧ w'.cell? ⟨r, 72 + x, none⟩ = some (.int .u16 o1) ∧ w'.cell? ⟨r, 136 + x, none⟩ = some (.int .u16 o2)) (by kernel_rfl) (by kernel_rfl) ⟨hk, hb, hq⟩ (fun hHeld1 => ?_)
            simp only [List.map_cons, List.map_nil, List.getElem?_toArray, List.getElem?_cons_zero, List.getElem?_cons_succ]
            repeat (first | (refine seq_skip (by rfl) ?_; try simp only [Act.put, List.setIfInBounds_toArray, List.set_cons_zero, List.set_cons_succ]) | (refine seq_not (by rfl) (by assumption) ?_; try simp only [Act.put, List.setIfInBounds_toArray, List.set_cons_zero, List.set_cons_succ]) | (refine seq_take (v := ?_) (by rfl) ?_ ?_; rotate_left; (focus ((intro w hSw; (try dsimp only at hSw); go_simp; (try with_reducible rfl)); done)); try simp only [Act.put, List.setIfInBounds_toArray, List.set_cons_zero, List.set_cons_succ]))
            refine seq_do (fun K hK => ?_)
            go_simp
            go_at_call 11
            (with_reducible refine Calls.mono (C.out _) ?_)
            rintro e w' ⟨rfl, rfl⟩
            dsimp only
            refine hK.out _ _ ⟨hk, hb, hq⟩ (fun hHeld => ?_)
            clear hK K
            repeat (first | (refine seq_skip (by rfl) ?_; try simp only [Act.put, List.setIfInBounds_toArray, List.set_cons_zero, List.set_cons_succ]) | (refine seq_not (by rfl) (by assumption) ?_; try simp only [Act.put, List.setIfInBounds_toArray, List.set_cons_zero, List.set_cons_succ]) | (refine seq_take (v := ?_) (by rfl) ?_ ?_; rotate_left; (focus ((intro w hSw; (try dsimp only at hSw); go_simp; (try with_reducible rfl)); done)); try simp only [Act.put, List.setIfInBounds_toArray, List.set_cons_zero, List.set_cons_succ]))
            refine seq_done ?_
            clear hHeld hHeld1
            go_wp2
            go_ret
            exact ⟨rfl, H2.out.drew, HK2.out.drew⟩
        | true =>
          have he : hear me s f x (b, q) = (hmv s x (b, q) (o1, o2), { s with root := x, beats := 0, quiet := 0 }, put f x (b, q)) := by
            unfold hear takes
            rw [HM.out, ho]
            simp only [hn, Bool.and_true, if_true, Option.getD_some]
          unfold hmv at he
          clear hn
          have y1 : (s.root != (x : Int)) = true ∨ (s.root != (x : Int)) = false := by cases (s.root != (x : Int)) <;> simp
          rcases y1 with y1 | y1
          · rw [y1] at he
            simp only [Bool.true_or, if_true] at he
            have y2 : (s.root == (x : Int)) = false := by simpa using y1
            as_aux_lemma =>
              have he2 := HH.out.symm.trans he
              simp only [Prod.mk.injEq] at he2
              obtain ⟨rfl, rfl, rfl⟩ := he2
              clear he HH
              go_wp2_with fail
              refine wp_region_seq [(0, true), (1, true), (2, true), (3, true), (4, true), (5, true), (6, true), (7, true), (8, true), (9, true), (10, true), (11, true), (12, true), (13, true), (14, true), (15, true), (16, true), (17, true), (18, true), (19, true), (20, true), (21, false), (22, true), (23, true)] (fun w' => w'.cell? ⟨r, 8 + x, none⟩ = some (.bool true) ∧ w'.cell? ⟨r, 72 + x, none⟩ = some (.int .u16 o1) ∧ w'.cell? ⟨r, 136 + x, none⟩ = some (.int .u16 o2)) (by kernel_rfl) (by kernel_rfl) ⟨hk, hb, hq⟩ (fun hHeld1 => ?_)
              simp only [List.map_cons, List.map_nil, List.getElem?_toArray, List.getElem?_cons_zero, List.getElem?_cons_succ]
              repeat (first | (refine seq_skip (by rfl) ?_; try simp only [Act.put, List.setIfInBounds_toArray, List.set_cons_zero, List.set_cons_succ]) | (refine seq_not (by rfl) (by assumption) ?_; try simp only [Act.put, List.setIfInBounds_toArray, List.set_cons_zero, List.set_cons_succ]) | (refine seq_take (v := ?_) (by rfl) ?_ ?_; rotate_left; (focus ((intro w hSw; (try dsimp only at hSw); go_simp; (try with_reducible rfl)); done)); try simp only [Act.put, List.setIfInBounds_toArray, List.set_cons_zero, List.set_cons_succ]))
              refine seq_do (fun K hK => ?_)
              go_simp
              go_at_call 11
              (with_reducible refine Calls.mono (C.out _) ?_)
              rintro e w' ⟨rfl, rfl⟩
              dsimp only
              refine hK.out _ _ ⟨hk, hb, hq⟩ (fun hHeld => ?_)
              clear hK K
              repeat (first | (refine seq_skip (by rfl) ?_; try simp only [Act.put, List.setIfInBounds_toArray, List.set_cons_zero, List.set_cons_succ]) | (refine seq_not (by rfl) (by assumption) ?_; try simp only [Act.put, List.setIfInBounds_toArray, List.set_cons_zero, List.set_cons_succ]) | (refine seq_take (v := ?_) (by rfl) ?_ ?_; rotate_left; (focus ((intro w hSw; (try dsimp only at hSw); go_simp; (try with_reducible rfl)); done)); try simp only [Act.put, List.setIfInBounds_toArray, List.set_cons_zero, List.set_cons_succ]))
              refine seq_done ?_
              clear hHeld hHeld1
              have H3 := Lib.hid H2.out.drew
              have HK3 := Lib.hid HK2.out.drew
              clear c0 c1 c2 c3 c4 c5 c6 c7 H2 HK2
              clear hk hb
              try clear hq
              generalize w1.drew = w2 at H3 HK3 ⊢
              have c5 := H3.out.cells.2.2.2.2.2.1
              have hk := H3.out.known hx
              have hb := H3.out.boots hx
              rw [ho] at hk hb
              dsimp only [Option.isSome_none, Option.getD_none, Option.isSome_some, Option.getD_some] at hk hb
              go_upto_region 12 with fail
              clear c5 hb
              have fz := H3.out.frozen (8 + x)
              go_upto_region 13 with fail
              clear hk fz
              obtain ⟨w3, h3⟩ : ∃ w3, w2.setCell ⟨r, 8 + x, none⟩ (.bool true) = w3 := ⟨_, rfl⟩
              rw [h3]
              have HC3 := Lib.hid (h3 ▸ Cs.set H3.out (8 + x) (.bool true))
              have HW3 := Lib.hid h3
              clear h3
              obtain ⟨v, hv⟩ := HC3.out.some (i := 72 + x) (by omega)
              have fz := HC3.out.frozen (72 + x)
              go_upto_region 14 with fail
              clear hv fz v
              obtain ⟨w4, h4⟩ : ∃ w4, w3.setCell ⟨r, 72 + x, none⟩ (.int .u16 b) = w4 := ⟨_, rfl⟩
              rw [h4]
              have HC4 := Lib.hid (h4 ▸ Cs.set HC3.out (72 + x) (.int .u16 b))
              have HW4 := Lib.hid h4
              clear h4
              obtain ⟨v, hv⟩ := HC4.out.some (i := 136 + x) (by omega)
              have fz := HC4.out.frozen (136 + x)
              go_upto_region 15 with fail
              clear hv fz v
              have H5 := Lib.hid (H3.out.put x hx (b, q))
              rw [HW3.out, HW4.out] at H5
              have HK5 := Lib.hid (show Kp (fun k => k = r) w (w4.setCell ⟨r, 136 + x, none⟩ (.int .u16 q)) by
                have h3 := HW3.out
                have h4 := HW4.out
                have hk := HK3.out
                subst h3 h4
                (repeat (first | (with_reducible assumption) | (with_reducible apply Kp.drew) | ((with_reducible apply kp_set); (focus (first | exact .inl rfl | (right; (try simp only [size_set, size_drew, World.size_alloc]); omega)))) | (with_reducible apply Kp.alloc) | (with_reducible exact Kp.refl _ _))))
              clear HC3 HC4 HW3 HW4 H3 HK3
              generalize w4.setCell ⟨r, 136 + x, none⟩ (.int .u16 q) = w5 at H5 HK5 ⊢
              have c5 := H5.out.cells.2.2.2.2.2.1
              have f5 := H5.out.frozen 5
              go_upto_region 16 with fail
              clear c5 f5
              have H6 := Lib.hid (H5.out.root x)
              have HK6 := Lib.hid (show Kp (fun k => k = r) w (w5.setCell ⟨r, 5, none⟩ (.int .i64 x)) by have hk := HK5.out; (repeat (first | (with_reducible assumption) | (with_reducible apply Kp.drew) | ((with_reducible apply kp_set); (focus (first | exact .inl rfl | (right; (try simp only [size_set, size_drew, World.size_alloc]); omega)))) | (with_reducible apply Kp.alloc) | (with_reducible exact Kp.refl _ _))))
              clear H5 HK5
              generalize w5.setCell ⟨r, 5, none⟩ (.int .i64 x) = w6 at H6 HK6 ⊢
              have c6 := H6.out.cells.2.2.2.2.2.2.1
              have f6 := H6.out.frozen 6
              go_upto_region 17 with fail
              clear c6 f6
              have H7 := Lib.hid (H6.out.beats 0)
              have HK7 := Lib.hid (show Kp (fun k => k = r) w (w6.setCell ⟨r, 6, none⟩ (.int .i64 0)) by have hk := HK6.out; (repeat (first | (with_reducible assumption) | (with_reducible apply Kp.drew) | ((with_reducible apply kp_set); (focus (first | exact .inl rfl | (right; (try simp only [size_set, size_drew, World.size_alloc]); omega)))) | (with_reducible apply Kp.alloc) | (with_reducible exact Kp.refl _ _))))
              clear H6 HK6
              generalize w6.setCell ⟨r, 6, none⟩ (.int .i64 0) = w7 at H7 HK7 ⊢
              have c7 := H7.out.cells.2.2.2.2.2.2.2
              have f7 := H7.out.frozen 7
              go_wp2
              go_ret
              have hk := HK7.out
              exact ⟨rfl, H7.out.quiet 0, by (repeat (first | (with_reducible assumption) | (with_reducible apply Kp.drew) | ((with_reducible apply kp_set); (focus (first | exact .inl rfl | (right; (try simp only [size_set, size_drew, World.size_alloc]); omega)))) | (with_reducible apply Kp.alloc) | (with_reducible exact Kp.refl _ _)))⟩
          · have y2 : (s.root == (x : Int)) = true := by simpa using y1
            have y3 : (o1 != b) = true ∨ (o1 != b) = false := by cases (o1 != b) <;> simp
            rcases y3 with y3 | y3
            · rw [y1] at he
              dsimp only at he
              rw [y3] at he
              simp only [Bool.or_true, if_true] at he
              have y4 : (o1 == b) = false := by simpa using y3
              as_aux_lemma =>
                have he2 := HH.out.symm.trans he
                simp only [Prod.mk.injEq] at he2
                obtain ⟨rfl, rfl, rfl⟩ := he2
                clear he HH
                go_wp2_with fail
                refine wp_region_seq [(0, true), (1, true), (2, true), (3, true), (4, true), (5, true), (6, true), (7, true), (8, true), (9, true), (10, true), (11, true), (12, true), (13, true), (14, true), (15, true), (16, true), (17, true), (18, true), (19, true), (20, true), (21, false), (22, true), (23, true)] (fun w' => w'.cell? ⟨r, 8 + x, none⟩ = some (.bool true) ∧ w'.cell? ⟨r, 72 + x, none⟩ = some (.int .u16 o1) ∧ w'.cell? ⟨r, 136 + x, none⟩ = some (.int .u16 o2)) (by kernel_rfl) (by kernel_rfl) ⟨hk, hb, hq⟩ (fun hHeld1 => ?_)
                simp only [List.map_cons, List.map_nil, List.getElem?_toArray, List.getElem?_cons_zero, List.getElem?_cons_succ]
                repeat (first | (refine seq_skip (by rfl) ?_; try simp only [Act.put, List.setIfInBounds_toArray, List.set_cons_zero, List.set_cons_succ]) | (refine seq_not (by rfl) (by assumption) ?_; try simp only [Act.put, List.setIfInBounds_toArray, List.set_cons_zero, List.set_cons_succ]) | (refine seq_take (v := ?_) (by rfl) ?_ ?_; rotate_left; (focus ((intro w hSw; (try dsimp only at hSw); go_simp; (try with_reducible rfl)); done)); try simp only [Act.put, List.setIfInBounds_toArray, List.set_cons_zero, List.set_cons_succ]))
                refine seq_do (fun K hK => ?_)
                go_simp
                go_at_call 11
                (with_reducible refine Calls.mono (C.out _) ?_)
                rintro e w' ⟨rfl, rfl⟩
                dsimp only
                refine hK.out _ _ ⟨hk, hb, hq⟩ (fun hHeld => ?_)
                clear hK K
                repeat (first | (refine seq_skip (by rfl) ?_; try simp only [Act.put, List.setIfInBounds_toArray, List.set_cons_zero, List.set_cons_succ]) | (refine seq_not (by rfl) (by assumption) ?_; try simp only [Act.put, List.setIfInBounds_toArray, List.set_cons_zero, List.set_cons_succ]) | (refine seq_take (v := ?_) (by rfl) ?_ ?_; rotate_left; (focus ((intro w hSw; (try dsimp only at hSw); go_simp; (try with_reducible rfl)); done)); try simp only [Act.put, List.setIfInBounds_toArray, List.set_cons_zero, List.set_cons_succ]))
                refine seq_done ?_
                clear hHeld hHeld1
                have H3 := Lib.hid H2.out.drew
                have HK3 := Lib.hid HK2.out.drew
                clear c0 c1 c2 c3 c4 c5 c6 c7 H2 HK2
                clear hk hb
                try clear hq
                generalize w1.drew = w2 at H3 HK3 ⊢
                have c5 := H3.out.cells.2.2.2.2.2.1
                have hk := H3.out.known hx
                have hb := H3.out.boots hx
                rw [ho] at hk hb
                dsimp only [Option.isSome_none, Option.getD_none, Option.isSome_some, Option.getD_some] at hk hb
                go_upto_region 12 with fail
                clear c5 hb
                have fz := H3.out.frozen (8 + x)
                go_upto_region 13 with fail
                clear hk fz
                obtain ⟨w3, h3⟩ : ∃ w3, w2.setCell ⟨r, 8 + x, none⟩ (.bool true) = w3 := ⟨_, rfl⟩
                rw [h3]
                have HC3 := Lib.hid (h3 ▸ Cs.set H3.out (8 + x) (.bool true))
                have HW3 := Lib.hid h3
                clear h3
                obtain ⟨v, hv⟩ := HC3.out.some (i := 72 + x) (by omega)
                have fz := HC3.out.frozen (72 + x)
                go_upto_region 14 with fail
                clear hv fz v
                obtain ⟨w4, h4⟩ : ∃ w4, w3.setCell ⟨r, 72 + x, none⟩ (.int .u16 b) = w4 := ⟨_, rfl⟩
                rw [h4]
                have HC4 := Lib.hid (h4 ▸ Cs.set HC3.out (72 + x) (.int .u16 b))
                have HW4 := Lib.hid h4
                clear h4
                obtain ⟨v, hv⟩ := HC4.out.some (i := 136 + x) (by omega)
                have fz := HC4.out.frozen (136 + x)
                go_upto_region 15 with fail
                clear hv fz v
                have H5 := Lib.hid (H3.out.put x hx (b, q))
                rw [HW3.out, HW4.out] at H5
                have HK5 := Lib.hid (show Kp (fun k => k = r) w (w4.setCell ⟨r, 136 + x, none⟩ (.int .u16 q)) by
                  have h3 := HW3.out
                  have h4 := HW4.out
                  have hk := HK3.out
                  subst h3 h4
                  (repeat (first | (with_reducible assumption) | (with_reducible apply Kp.drew) | ((with_reducible apply kp_set); (focus (first | exact .inl rfl | (right; (try simp only [size_set, size_drew, World.size_alloc]); omega)))) | (with_reducible apply Kp.alloc) | (with_reducible exact Kp.refl _ _))))
                clear HC3 HC4 HW3 HW4 H3 HK3
                generalize w4.setCell ⟨r, 136 + x, none⟩ (.int .u16 q) = w5 at H5 HK5 ⊢
                have c5 := H5.out.cells.2.2.2.2.2.1
                have f5 := H5.out.frozen 5
                go_upto_region 16 with fail
                clear c5 f5
                have H6 := Lib.hid (H5.out.root x)
                have HK6 := Lib.hid (show Kp (fun k => k = r) w (w5.setCell ⟨r, 5, none⟩ (.int .i64 x)) by have hk := HK5.out; (repeat (first | (with_reducible assumption) | (with_reducible apply Kp.drew) | ((with_reducible apply kp_set); (focus (first | exact .inl rfl | (right; (try simp only [size_set, size_drew, World.size_alloc]); omega)))) | (with_reducible apply Kp.alloc) | (with_reducible exact Kp.refl _ _))))
                clear H5 HK5
                generalize w5.setCell ⟨r, 5, none⟩ (.int .i64 x) = w6 at H6 HK6 ⊢
                have c6 := H6.out.cells.2.2.2.2.2.2.1
                have f6 := H6.out.frozen 6
                go_upto_region 17 with fail
                clear c6 f6
                have H7 := Lib.hid (H6.out.beats 0)
                have HK7 := Lib.hid (show Kp (fun k => k = r) w (w6.setCell ⟨r, 6, none⟩ (.int .i64 0)) by have hk := HK6.out; (repeat (first | (with_reducible assumption) | (with_reducible apply Kp.drew) | ((with_reducible apply kp_set); (focus (first | exact .inl rfl | (right; (try simp only [size_set, size_drew, World.size_alloc]); omega)))) | (with_reducible apply Kp.alloc) | (with_reducible exact Kp.refl _ _))))
                clear H6 HK6
                generalize w6.setCell ⟨r, 6, none⟩ (.int .i64 0) = w7 at H7 HK7 ⊢
                have c7 := H7.out.cells.2.2.2.2.2.2.2
                have f7 := H7.out.frozen 7
                go_wp2
                go_ret
                have hk := HK7.out
                exact ⟨rfl, H7.out.quiet 0, by (repeat (first | (with_reducible assumption) | (with_reducible apply Kp.drew) | ((with_reducible apply kp_set); (focus (first | exact .inl rfl | (right; (try simp only [size_set, size_drew, World.size_alloc]); omega)))) | (with_reducible apply Kp.alloc) | (with_reducible exact Kp.refl _ _)))⟩
            · rw [y1] at he
              dsimp only at he
              rw [y3] at he
              simp only [Bool.or_false, Bool.false_eq_true, if_false] at he
              have y4 : (o1 == b) = true := by simpa using y3
              as_aux_lemma =>
                have he2 := HH.out.symm.trans he
                simp only [Prod.mk.injEq] at he2
                obtain ⟨rfl, rfl, rfl⟩ := he2
                clear he HH
                go_wp2_with fail
                refine wp_region_seq [(0, true), (1, true), (2, true), (3, true), (4, true), (5, true), (6, true), (7, true), (8, true), (9, true), (10, true), (11, true), (12, true), (13, true), (14, true), (15, true), (16, true), (17, true), (18, true), (19, true), (20, true), (21, false), (22, true), (23, true)] (fun w' => w'.cell? ⟨r, 8 + x, none⟩ = some (.bool true) ∧ w'.cell? ⟨r, 72 + x, none⟩ = some (.int .u16 o1) ∧ w'.cell? ⟨r, 136 + x, none⟩ = some (.int .u16 o2)) (by kernel_rfl) (by kernel_rfl) ⟨hk, hb, hq⟩ (fun hHeld1 => ?_)
                simp only [List.map_cons, List.map_nil, List.getElem?_toArray, List.getElem?_cons_zero, List.getElem?_cons_succ]
                repeat (first | (refine seq_skip (by rfl) ?_; try simp only [Act.put, List.setIfInBounds_toArray, List.set_cons_zero, List.set_cons_succ]) | (refine seq_not (by rfl) (by assumption) ?_; try simp only [Act.put, List.setIfInBounds_toArray, List.set_cons_zero, List.set_cons_succ]) | (refine seq_take (v := ?_) (by rfl) ?_ ?_; rotate_left; (focus ((intro w hSw; (try dsimp only at hSw); go_simp; (try with_reducible rfl)); done)); try simp only [Act.put, List.setIfInBounds_toArray, List.set_cons_zero, List.set_cons_succ]))
                refine seq_do (fun K hK => ?_)
                go_simp
                go_at_call 11
                (with_reducible refine Calls.mono (C.out _) ?_)
                rintro e w' ⟨rfl, rfl⟩
                dsimp only
                refine hK.out _ _ ⟨hk, hb, hq⟩ (fun hHeld => ?_)
                clear hK K
                repeat (first | (refine seq_skip (by rfl) ?_; try simp only [Act.put, List.setIfInBounds_toArray, List.set_cons_zero, List.set_cons_succ]) | (refine seq_not (by rfl) (by assumption) ?_; try simp only [Act.put, List.setIfInBounds_toArray, List.set_cons_zero, List.set_cons_succ]) | (refine seq_take (v := ?_) (by rfl) ?_ ?_; rotate_left; (focus ((intro w hSw; (try dsimp only at hSw); go_simp; (try with_reducible rfl)); done)); try simp only [Act.put, List.setIfInBounds_toArray, List.set_cons_zero, List.set_cons_succ]))
                refine seq_done ?_
                clear hHeld hHeld1
                have H3 := Lib.hid H2.out.drew
                have HK3 := Lib.hid HK2.out.drew
                clear c0 c1 c2 c3 c4 c5 c6 c7 H2 HK2
                clear hk hb
                try clear hq
                generalize w1.drew = w2 at H3 HK3 ⊢
                have c5 := H3.out.cells.2.2.2.2.2.1
                have hk := H3.out.known hx
                have hb := H3.out.boots hx
                rw [ho] at hk hb
                dsimp only [Option.isSome_none, Option.getD_none, Option.isSome_some, Option.getD_some] at hk hb
                go_upto_region 12 with fail
                clear c5 hb
                have fz := H3.out.frozen (8 + x)
                go_upto_region 13 with fail
                clear hk fz
                obtain ⟨w3, h3⟩ : ∃ w3, w2.setCell ⟨r, 8 + x, none⟩ (.bool true) = w3 := ⟨_, rfl⟩
                rw [h3]
                have HC3 := Lib.hid (h3 ▸ Cs.set H3.out (8 + x) (.bool true))
                have HW3 := Lib.hid h3
                clear h3
                obtain ⟨v, hv⟩ := HC3.out.some (i := 72 + x) (by omega)
                have fz := HC3.out.frozen (72 + x)
                go_upto_region 14 with fail
                clear hv fz v
                obtain ⟨w4, h4⟩ : ∃ w4, w3.setCell ⟨r, 72 + x, none⟩ (.int .u16 b) = w4 := ⟨_, rfl⟩
                rw [h4]
                have HC4 := Lib.hid (h4 ▸ Cs.set HC3.out (72 + x) (.int .u16 b))
                have HW4 := Lib.hid h4
                clear h4
                obtain ⟨v, hv⟩ := HC4.out.some (i := 136 + x) (by omega)
                have fz := HC4.out.frozen (136 + x)
                go_upto_region 15 with fail
                clear hv fz v
                have H5 := Lib.hid (H3.out.put x hx (b, q))
                rw [HW3.out, HW4.out] at H5
                have HK5 := Lib.hid (show Kp (fun k => k = r) w (w4.setCell ⟨r, 136 + x, none⟩ (.int .u16 q)) by
                  have h3 := HW3.out
                  have h4 := HW4.out
                  have hk := HK3.out
                  subst h3 h4
                  (repeat (first | (with_reducible assumption) | (with_reducible apply Kp.drew) | ((with_reducible apply kp_set); (focus (first | exact .inl rfl | (right; (try simp only [size_set, size_drew, World.size_alloc]); omega)))) | (with_reducible apply Kp.alloc) | (with_reducible exact Kp.refl _ _))))
                clear HC3 HC4 HW3 HW4 H3 HK3
                generalize w4.setCell ⟨r, 136 + x, none⟩ (.int .u16 q) = w5 at H5 HK5 ⊢
                have c5 := H5.out.cells.2.2.2.2.2.1
                have f5 := H5.out.frozen 5
                go_upto_region 16 with fail
                clear c5 f5
                have H6 := Lib.hid (H5.out.root x)
                have HK6 := Lib.hid (show Kp (fun k => k = r) w (w5.setCell ⟨r, 5, none⟩ (.int .i64 x)) by have hk := HK5.out; (repeat (first | (with_reducible assumption) | (with_reducible apply Kp.drew) | ((with_reducible apply kp_set); (focus (first | exact .inl rfl | (right; (try simp only [size_set, size_drew, World.size_alloc]); omega)))) | (with_reducible apply Kp.alloc) | (with_reducible exact Kp.refl _ _))))
                clear H5 HK5
                generalize w5.setCell ⟨r, 5, none⟩ (.int .i64 x) = w6 at H6 HK6 ⊢
                have c6 := H6.out.cells.2.2.2.2.2.2.1
                have f6 := H6.out.frozen 6
                go_upto_region 17 with fail
                clear c6 f6
                have H7 := Lib.hid (H6.out.beats 0)
                have HK7 := Lib.hid (show Kp (fun k => k = r) w (w6.setCell ⟨r, 6, none⟩ (.int .i64 0)) by have hk := HK6.out; (repeat (first | (with_reducible assumption) | (with_reducible apply Kp.drew) | ((with_reducible apply kp_set); (focus (first | exact .inl rfl | (right; (try simp only [size_set, size_drew, World.size_alloc]); omega)))) | (with_reducible apply Kp.alloc) | (with_reducible exact Kp.refl _ _))))
                clear H6 HK6
                generalize w6.setCell ⟨r, 6, none⟩ (.int .i64 0) = w7 at H7 HK7 ⊢
                have c7 := H7.out.cells.2.2.2.2.2.2.2
                have f7 := H7.out.frozen 7
                go_wp2
                go_ret
                have hk := HK7.out
                exact ⟨rfl, H7.out.quiet 0, by (repeat (first | (with_reducible assumption) | (with_reducible apply Kp.drew) | ((with_reducible apply kp_set); (focus (first | exact .inl rfl | (right; (try simp only [size_set, size_drew, World.size_alloc]); omega)))) | (with_reducible apply Kp.alloc) | (with_reducible exact Kp.refl _ _)))⟩
theorem rhear_ok (r : Nat) (me t g a b q : Int) (s : St) (f : Int → Option (Int × Int)) (w : World) (h : Re w r me t g s f) (hru : RuOk me t g) (hs : StOk me t g s) (hf : FOk me s f) (hu : U16 (b, q)) :
    Calls Try.prog 21 #[.pointer (some ⟨r, 0, none⟩), .int .i64 a, .int .u16 b, .int .u16 q] w fun e w' => e = .returned (.int .i64 (hear me s f a (b, q)).1) ∧ Re w' r me t g (hear me s f a (b, q)).2.1 (hear me s f a (b, q)).2.2 ∧ Kp (fun k => k = r) w w' := by
  have hm : mayb me s a = true ∨ mayb me s a = false := by cases mayb me s a <;> simp
  rcases hm with hm | hm
  · exact rhear_yes r me t g a b q s f w h hru hf hu hm
  · rw [hear_not (show takes me s f a (b, q) = false by unfold takes; rw [hm]; rfl)]
    exact rhear_no r me t g a b q s f w h hs hm
end Go.Proofs.Ythnnejflgbminaa.El
