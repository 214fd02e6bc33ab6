/- Proves: the law EtherHears's function answers true at every input, and changes nothing that was there; over the table that the library lays. -/
import Derived.Test.YtofflnklbdhaiaaDoorAl
import Derived.Test.YtofflnklbdhaiaaDoorRr
import Derived.Test.YtofflnklbdhaiaaDoorIn
import Derived.Test.YtofflnklbdhaiaaDoorLf
namespace Go.Proofs.YtofflnklbdhaiaaDoor.EtherHearsW
open Go.RowKit Go.Proofs.YtofflnklbdhaiaaDoor.Bk Go.Proofs.YtofflnklbdhaiaaDoor.Rw Go.Proofs.YtofflnklbdhaiaaDoor.Ow Go.Proofs.YtofflnklbdhaiaaDoor.Kp Go.Proofs.YtofflnklbdhaiaaDoor.In Go.Proofs.YtofflnklbdhaiaaDoor.Bl Go.Proofs.YtofflnklbdhaiaaDoor.Tz Go.Proofs.YtofflnklbdhaiaaDoor.Lk Go.Proofs.YtofflnklbdhaiaaDoor.Sc Go.Proofs.YtofflnklbdhaiaaDoor.Rf Go.Proofs.YtofflnklbdhaiaaDoor.Rm Go.Proofs.YtofflnklbdhaiaaDoor.Er Go.Proofs.YtofflnklbdhaiaaDoor.Sr Go.Proofs.YtofflnklbdhaiaaDoor.Ak Go.Proofs.YtofflnklbdhaiaaDoor.Bo Go.Proofs.YtofflnklbdhaiaaDoor.Ep Go.Proofs.YtofflnklbdhaiaaDoor.Rr Go.Proofs.YtofflnklbdhaiaaDoor.Al
theorem ub_of {l : List Int} (h : ∀ x ∈ l, (Lit.int .u64 x).wf = true) : ∀ x ∈ l, 0 ≤ x ∧ x < 2 ^ 64 := fun x hx => by
  have h := h x hx
  simp only [Lit.wf, Bool.and_eq_true, decide_eq_true_eq] at h
  have h1 : 0 ≤ x ∧ x ≤ 18446744073709551615 := ⟨h.1, h.2⟩
  omega
theorem ri_below {k : IntKind} {w w' : World} {A : Option Addr} {l : List Int} (h : Ri k w A l) (hb : Below w.heap.size w w') : Ri k w' A l := h.below hb
/-- The bit of x in what Ask answers of kk. -/
theorem ask_bit {a : List Nat} (hsy : Sy a) (es : List (Int × Int)) (he : es.length = a.length) (kk : Int) (x : Nat) (hx : x < 64) :
    (askl es kk (bl (set_ a kk))).testBit x = (decide (x < a.length) && decide (0 ≤ kk) && decide (kk < (a.length : Int)) && B a x kk.toNat && decide ((es.getD x (0, 0)).1 = kk) && decide ((es.getD x (0, 0)).2 = 1)) := by
  rw [askl_bit]
  have h1 : decide (x ∈ bl (set_ a kk)) = (set_ a kk).testBit x := by
    cases h : (set_ a kk).testBit x with
    | true => exact decide_eq_true (bl_mem.2 ⟨hx, h⟩)
    | false => exact decide_eq_false (fun hm => by rw [(bl_mem.1 hm).2] at h; cases h)
  rw [h1]
  unfold hd set_
  rw [he]
  by_cases hk : isn a kk = true
  · rw [if_pos hk]
    simp only [isn, Bool.and_eq_true] at hk
    rw [hk.1, hk.2, show (a.getD kk.toNat 0).testBit x = B a x kk.toNat from hsy.both _ _]
    cases B a x kk.toNat <;> cases decide (x < a.length) <;> simp
  · rw [if_neg hk]
    have hk2 : (decide (0 ≤ kk) && decide (kk < (a.length : Int))) = false := by simpa [isn] using hk
    rw [Nat.zero_testBit, Bool.false_and, Bool.and_assoc (decide (x < a.length)), hk2]
    simp
set_option maxRecDepth 100000 in
set_option maxHeartbeats 8000000 in
set_option linter.unusedVariables false in
theorem walk (a0 : Int) (a1 : Option Addr) (len1 cap1 : Nat) (z1 : List (List Value)) (a2 : Int) (a3 : Int) (a4 : Option Addr) (len4 cap4 : Nat) (z4 : List Int) (W : World) (w0 : (Lit.int .i64 a0).wf = true) (l1 : len1 ≤ cap1) (m1 : cap1 ≤ maxLen) (w1 : Lf.RowsAt W [.i .i64, .i .i64] a1 len1 z1) (w2 : (Lit.int .u64 a2).wf = true) (w3 : (Lit.int .u64 a3).wf = true) (w4 : Lf.IsRow .u64 W a4 len4 cap4 z4) (y4 : len4 * 8 ≤ 140737488351232) (wL : Go.Proofs.YtofflnklbdhaiaaDoor.Tz.Tab W) :
    Calls Tryd.prog 3 #[.int .i64 a0, .slice a1 len1 cap1, .int .u64 a2, .int .u64 a3, .slice a4 len4 cap4] W fun e w' => e = .returned (.bool true) ∧ Below W.heap.size W w' := by
  have u0 : -9223372036854775808 ≤ a0 ∧ a0 ≤ 9223372036854775807 := by
    have h := w0
    simp only [Lit.wf, Bool.and_eq_true, decide_eq_true_eq] at h
    exact ⟨h.1, h.2⟩
  have HT := Lib.hid wL
  have CA := Lib.hid (alive_ok W wL)
  have HW := Lib.hid w1
  have hw0 := wL.1
  clear wL w0 w1
  have ua2 : 0 ≤ a2 ∧ a2 ≤ 18446744073709551615 := by
    have h := w2
    simp only [Lit.wf, Bool.and_eq_true, decide_eq_true_eq] at h
    exact ⟨h.1, h.2⟩
  obtain ⟨sd, rfl⟩ : ∃ sd : Nat, a2 = sd := ⟨a2.toNat, by omega⟩
  clear w2
  have ua3 : 0 ≤ a3 ∧ a3 ≤ 18446744073709551615 := by
    have h := w3
    simp only [Lit.wf, Bool.and_eq_true, decide_eq_true_eq] at h
    exact ⟨h.1, h.2⟩
  obtain ⟨aw, rfl⟩ : ∃ aw : Nat, a3 = aw := ⟨a3.toNat, by omega⟩
  clear w3
  obtain ⟨lo4, rfl, _, _, hR4, hw4⟩ := row_ints w4
  have HR4 := Lib.hid hR4
  have HW4 := Lib.hid (ub_of hw4)
  clear w4 hR4 hw4 y4
  by_cases h1 : a0 < 1
  ·
    go_enter Tryd.func3, Tryd.ntmps3
    go_wp2_with (go_at_call 6; (with_reducible refine Calls.mono CA.out ?_); rintro e wa ⟨rfl, hb⟩; have HBa := Lib.hid hb; clear hb)
    go_ret
    exact ⟨rfl, HBa.out⟩
  by_cases h2 : 64 < a0
  ·
    go_enter Tryd.func3, Tryd.ntmps3
    go_wp2_with (go_at_call 6; (with_reducible refine Calls.mono CA.out ?_); rintro e wa ⟨rfl, hb⟩; have HBa := Lib.hid hb; clear hb)
    go_ret
    exact ⟨rfl, HBa.out⟩
  by_cases h3 : 100 < len1
  · have h4 : (100 : Int) < (len1 : Int) := by omega
    go_enter Tryd.func3, Tryd.ntmps3
    go_wp2_with (go_at_call 6; (with_reducible refine Calls.mono CA.out ?_); rintro e wa ⟨rfl, hb⟩; have HBa := Lib.hid hb; clear hb)
    go_ret
    exact ⟨rfl, HBa.out⟩
  have h4 : ¬ (100 : Int) < (len1 : Int) := by omega
  by_cases h5 : 100 < lo4.length
  · have h6 : (100 : Int) < (lo4.length : Int) := by omega
    go_enter Tryd.func3, Tryd.ntmps3
    go_wp2_with (go_at_call 6; (with_reducible refine Calls.mono CA.out ?_); rintro e wa ⟨rfl, hb⟩; have HBa := Lib.hid hb; clear hb)
    go_ret
    exact ⟨rfl, HBa.out⟩
  have h6 : ¬ (100 : Int) < (lo4.length : Int) := by omega
  obtain ⟨n, rfl⟩ : ∃ n : Nat, a0 = n := ⟨a0.toNat, by omega⟩
  go_enter Tryd.func3, Tryd.ntmps3
  go_wp2_with (go_at_call 6; (with_reducible refine Calls.mono CA.out ?_); rintro e wa ⟨rfl, hb⟩; have HBa := Lib.hid hb; clear hb)
  have CB := Lib.hid (both_ok n a1 len1 cap1 z1 wa (by omega) (by omega) (HW.out.below HBa.out) (by omega))
  go_wp2_with (go_at_call 7; (with_reducible refine Calls.mono CB.out ?_); rintro e w1 ⟨⟨p, g, m, rfl, hL, hRe, _, _, _⟩, hb⟩)
  have hsy : Sy (runp (List.replicate n 0) z1) := sy_runp z1 (Sy.none n) (by simp; omega)
  have hal : (runp (List.replicate n 0) z1).length = n := by rw [runp_length, List.length_replicate]
  generalize runp (List.replicate n 0) z1 = a at hL hRe hsy hal
  have HB1 := Lib.hid (HBa.out.trans (hb.mono HBa.out.size))
  have HL1 := Lib.hid hL
  have HM1 := Lib.hid hRe
  have HT1 := Lib.hid (HT.out.below HB1.out hw0)
  have CS := Lib.hid (step_ok (some ⟨p, 0, none⟩) a sd aw lo4 a4 cap4 w1 (.inr ⟨p, g, rfl, hL⟩) (by omega) (by omega) (by omega) (ri_below HR4.out HB1.out) HW4.out HT1.out)
  clear hb hL hRe CB HBa
  go_wp2_with (first
    | (go_at_call 8
       (with_reducible refine Calls.mono CS.out ?_)
       rintro e w2 ⟨⟨v, rfl, hv⟩, hb⟩
       obtain ⟨g1, k1, rfl, _, hes1, hk1⟩ := hv.es (by rw [ears_length]; omega)
       rw [ears_length, hal] at hk1
       rw [ears_length, hal]
       rw [hal] at hes1
       have HB2 := Lib.hid (HB1.out.trans (hb.mono HB1.out.size))
       have HL2 := Lib.hid (HL1.out.below hb)
       have HM2 := Lib.hid (re_below HM1.out hb (Cs.lt HM1.out))
       have HT2 := Lib.hid (HT1.out.below hb HT1.out.1)
       have HS2 := Lib.hid hes1
       have CS2 := Lib.hid (step_ok none [] sd aw lo4 a4 cap4 w2 (.inl ⟨rfl, rfl⟩) (by decide) (by omega) (by omega) (ri_below HR4.out HB2.out) HW4.out HT2.out)
       clear hb hes1 hv CS HB1 HL1 HT1 HM1)
    | (go_at_call 8
       (with_reducible refine Calls.mono CS2.out ?_)
       rintro e w3 ⟨⟨v, rfl, hv⟩, hb⟩
       obtain ⟨A0, d0, rfl⟩ : ∃ A0 d0, v = .slice A0 0 d0 := by
         rcases hv.2 with ⟨h, _⟩ | ⟨g', d', _, h, _⟩
         · exact ⟨_, _, h⟩
         · exact ⟨_, _, h⟩
       have HB3 := Lib.hid (HB2.out.trans (hb.mono HB2.out.size))
       have HL3 := Lib.hid (HL2.out.below hb)
       have HM3 := Lib.hid (re_below HM2.out hb (Cs.lt HM2.out))
       have HT3 := Lib.hid (HT2.out.below hb HT2.out.1)
       have HS3 := Lib.hid (HS2.out.keeps hb)
       have CA := Lib.hid (show Calls Tryd.prog 9 #[.pointer none, .int .i64 0, .slice (some ⟨g1, 0, none⟩) n k1] w3 fun e w' => e = .returned (.int .u64 0) ∧ Below w3.heap.size w3 w' by
         have h := ask_ok none [] 0 (ears a sd aw lo4 n) g1 k1 w3 (.inl ⟨rfl, rfl⟩) HS3.out HT3.out
         rw [ears_length] at h
         exact h)
       clear hb hv CS2 HB2 HL2 HT2 HM2 HS2)
    | (go_at_call 9
       (with_reducible refine Calls.mono CA.out ?_)
       rintro e w4 ⟨rfl, hb⟩
       have HB4 := Lib.hid (HB3.out.trans (hb.mono HB3.out.size))
       have HL4 := Lib.hid (HL3.out.below hb)
       have HM4 := Lib.hid (re_below HM3.out hb (Cs.lt HM3.out))
       have HT4 := Lib.hid (HT3.out.below hb HT3.out.1)
       have HS4 := Lib.hid (HS3.out.keeps hb)
       clear hb CA HB3 HL3 HT3 HM3 HS3))
  have HEA := Lib.hid (fun x (hx : x < n) => ears_at a sd aw lo4 n hx)
  have HLN := Lib.hid (ears_length a sd aw lo4 n)
  have HSY := Lib.hid hsy
  generalize ears a sd aw lo4 n = es at HS4 HEA HLN
  go_loopw [70] (fun i wr => ∃ x : Nat, x ≤ n ∧ i = .int .i64 x ∧ Ln wr p g a ∧ Re wr m a ∧ Es wr g1 es ∧ Below W.heap.size W wr) (fun i _ => n - (intOf i).toNat)
  case atStart => exact ⟨0, Nat.zero_le _, rfl, HL4.out, HM4.out, HS4.out, HB4.out⟩
  case round =>
    obtain ⟨x, hx, rfl, hL, hM, hS, hB⟩ := hrel
    by_cases hxn : x < n
    · have xn : (x : Int) < (n : Int) := by omega
      obtain ⟨s0, s1⟩ := hS.2 x (by rw [HLN.out]; exact hxn)
      have hea := HEA.out x hxn
      have hb0 : Below wr.heap.size wr (wr.alloc (.cells #[.int .i64 (es.getD x (0, 0)).1, .int .i64 (es.getD x (0, 0)).2] 35)) := (Below.refl _ _).alloc (Nat.le_refl _) _
      have HLx := Lib.hid (hL.below hb0)
      have HMx := Lib.hid (re_below hM hb0 (Cs.lt hM))
      have HSx := Lib.hid (hS.keeps hb0)
      have HBx := Lib.hid (hB.trans (hb0.mono hB.size))
      have CR := Lib.hid (rear_ok m a x sd aw lo4 a4 cap4 _ HMx.out HSY.out (by omega) (by omega) (ri_below HR4.out HBx.out) HW4.out)
      rw [← hea] at CR
      have z0 := (Blk.new wr 35 #[.int .i64 (es.getD x (0, 0)).1, .int .i64 (es.getD x (0, 0)).2]).cell 0
      have z1' := (Blk.new wr 35 #[.int .i64 (es.getD x (0, 0)).1, .int .i64 (es.getD x (0, 0)).2]).cell 1
      clear hL hM hS hB hea hb0 HL4 HM4 HS4 HB4
      generalize (es.getD x (0, 0)).1 = u at *
      generalize (es.getD x (0, 0)).2 = v at *
      have uu : (u == u) = true := by simp
      have un : (u != u) = false := by simp
      have vu : (v == v) = true := by simp
      have vn : (v != v) = false := by simp
      go_wp2_with (go_at_call 10; (with_reducible refine Calls.mono CR.out ?_); rintro e w7 ⟨rfl, rfl⟩)
      go_roundw
      case rel => exact ⟨x + 1, by omega, by go_num, HLx.out, HMx.out, HSx.out, HBx.out⟩
      case measure => simp [intOf]; omega
    · have HL5 := Lib.hid hL
      have HM5 := Lib.hid hM
      have HS5 := Lib.hid hS
      have HB5 := Lib.hid hB
      clear hL hM hS hB HL4 HM4 HS4 HB4
      go_wp2
      go_loopw [18] (fun i wr => ∃ kk : Int, -1 ≤ kk ∧ kk ≤ n + 1 ∧ i = .int .i64 kk ∧ Ln wr p g a ∧ Re wr m a ∧ Es wr g1 es ∧ Below W.heap.size W wr) (fun i _ => ((n : Int) + 1 - intOf i).toNat)
      case atStart => exact ⟨-1, by omega, by omega, rfl, HL5.out, HM5.out, HS5.out, HB5.out⟩
      case round =>
        obtain ⟨kk, hk0, hk1', rfl, hL, hM, hS, hB⟩ := hrel
        by_cases hkn : kk ≤ (n : Int)
        · have hT := HT.out.below hB hw0
          have CA := Lib.hid (ask_ok (some ⟨p, 0, none⟩) a kk es g1 k1 wr (.inr ⟨p, g, rfl, hL⟩) hS hT)
          rw [HLN.out] at CA
          have HAB := Lib.hid (fun x hx => ask_bit HSY.out es (by rw [HLN.out, hal]) kk x hx)
          rw [hal] at HAB
          generalize askl es kk (bl (set_ a kk)) = sw at CA HAB
          have HLk := Lib.hid hL
          have HMk := Lib.hid hM
          have HSk := Lib.hid hS
          have HBk := Lib.hid hB
          have hwr : IntKind.i64.wrap (kk + 1) = kk + 1 := by rw [IntKind.wrap_i64]; omega
          clear hL hM hS hB hT HL5 HM5 HS5 HB5
          go_wp2_with (first
            | (go_at_call 9
               (with_reducible refine Calls.mono CA.out ?_)
               rintro e w7 ⟨rfl, hb⟩
               have HLj := Lib.hid (HLk.out.below hb)
               have HMj := Lib.hid (re_below HMk.out hb (Cs.lt HMk.out))
               have HSj := Lib.hid (HSk.out.keeps hb)
               have HBj := Lib.hid (HBk.out.trans (hb.mono HBk.out.size))
               clear hb CA HLk HMk HSk HBk))
          go_loopw [20] (fun i wr => ∃ x : Nat, x ≤ 64 ∧ i = .int .i64 x ∧ Ln wr p g a ∧ Re wr m a ∧ Es wr g1 es ∧ Below W.heap.size W wr) (fun i _ => 64 - (intOf i).toNat)
          case atStart => exact ⟨0, Nat.zero_le _, rfl, HLj.out, HMj.out, HSj.out, HBj.out⟩
          case round =>
            obtain ⟨x, hx, rfl, hL, hM, hS, hB⟩ := hrel
            by_cases hx64 : x < 64
            · have x64 : (x : Int) < 64 := by omega
              have CI := Lib.hid (in_ok sw x wr)
              rw [inb_nat sw x hx64] at CI
              have hab := HAB.out x hx64
              have HLx := Lib.hid hL
              have HMx := Lib.hid hM
              have HSx := Lib.hid hS
              have HBx := Lib.hid hB
              clear HLj HMj HSj HBj
              by_cases c1 : x < n
              · have d1 : (x : Int) < (n : Int) := by omega
                by_cases c2 : 0 ≤ kk
                · by_cases c3 : kk < (n : Int)
                  · obtain ⟨k, rfl⟩ : ∃ k : Nat, kk = k := ⟨kk.toNat, by omega⟩
                    have k64 : (k : Int) < 64 := by omega
                    have sB := hM.at_ (i := x) (k := k) hx64 (by omega)
                    obtain ⟨s0, s1⟩ := hS.2 x (by rw [HLN.out]; exact c1)
                    rw [decide_eq_true c1, decide_eq_true c2, decide_eq_true c3, Int.toNat_natCast] at hab
                    generalize (es.getD x (0, 0)).1 = u at s0 hab
                    generalize (es.getD x (0, 0)).2 = v at s1 hab
                    cases hbx : B a x k with
                    | false =>
                      rw [hbx] at sB hab
                      simp only [Bool.and_false, Bool.false_and, Bool.true_and] at hab
                      rw [hab] at CI
                      clear hL hM hS hB hab
                      go_wp2_with (go_at_call 11; (with_reducible refine Calls.mono CI.out ?_); rintro e w8 ⟨rfl, rfl⟩)
                      go_roundw
                      case rel => exact ⟨x + 1, by omega, by go_num, HLx.out, HMx.out, HSx.out, HBx.out⟩
                      case measure => simp [intOf]; omega
                    | true =>
                      rw [hbx] at sB hab
                      by_cases c4 : u = (k : Int)
                      · by_cases c5 : v = 1
                        · rw [decide_eq_true c4, decide_eq_true c5] at hab
                          simp only [Bool.and_self] at hab
                          have q4 : (u == (k : Int)) = true := by simpa using c4
                          have q5 : (v == 1) = true := by simpa using c5
                          subst c4 c5
                          rw [hab] at CI
                          clear hL hM hS hB hab
                          go_wp2_with (go_at_call 11; (with_reducible refine Calls.mono CI.out ?_); rintro e w8 ⟨rfl, rfl⟩)
                          go_roundw
                          case rel => exact ⟨x + 1, by omega, by go_num, HLx.out, HMx.out, HSx.out, HBx.out⟩
                          case measure => simp [intOf]; omega
                        · rw [decide_eq_false c5] at hab
                          simp only [Bool.and_false] at hab
                          have q4 : (u == (k : Int)) = true := by simpa using c4
                          have q5 : (v == 1) = false := by simpa using c5
                          subst c4
                          rw [hab] at CI
                          clear hL hM hS hB hab
                          go_wp2_with (go_at_call 11; (with_reducible refine Calls.mono CI.out ?_); rintro e w8 ⟨rfl, rfl⟩)
                          go_roundw
                          case rel => exact ⟨x + 1, by omega, by go_num, HLx.out, HMx.out, HSx.out, HBx.out⟩
                          case measure => simp [intOf]; omega
                      · rw [decide_eq_false c4] at hab
                        simp only [Bool.and_false, Bool.false_and] at hab
                        have q4 : (u == (k : Int)) = false := by simpa using c4
                        rw [hab] at CI
                        clear hL hM hS hB hab
                        go_wp2_with (go_at_call 11; (with_reducible refine Calls.mono CI.out ?_); rintro e w8 ⟨rfl, rfl⟩)
                        go_roundw
                        case rel => exact ⟨x + 1, by omega, by go_num, HLx.out, HMx.out, HSx.out, HBx.out⟩
                        case measure => simp [intOf]; omega
                  · rw [decide_eq_false c3] at hab
                    simp only [Bool.and_false, Bool.false_and] at hab
                    rw [hab] at CI
                    clear hL hM hS hB hab
                    go_wp2_with (go_at_call 11; (with_reducible refine Calls.mono CI.out ?_); rintro e w8 ⟨rfl, rfl⟩)
                    go_roundw
                    case rel => exact ⟨x + 1, by omega, by go_num, HLx.out, HMx.out, HSx.out, HBx.out⟩
                    case measure => simp [intOf]; omega
                · rw [decide_eq_false c2] at hab
                  simp only [Bool.and_false, Bool.false_and] at hab
                  rw [hab] at CI
                  clear hL hM hS hB hab
                  go_wp2_with (go_at_call 11; (with_reducible refine Calls.mono CI.out ?_); rintro e w8 ⟨rfl, rfl⟩)
                  go_roundw
                  case rel => exact ⟨x + 1, by omega, by go_num, HLx.out, HMx.out, HSx.out, HBx.out⟩
                  case measure => simp [intOf]; omega
              · have d1 : ¬ (x : Int) < (n : Int) := by omega
                rw [decide_eq_false c1] at hab
                simp only [Bool.false_and] at hab
                rw [hab] at CI
                clear hL hM hS hB hab
                go_wp2_with (go_at_call 11; (with_reducible refine Calls.mono CI.out ?_); rintro e w8 ⟨rfl, rfl⟩)
                go_roundw
                case rel => exact ⟨x + 1, by omega, by go_num, HLx.out, HMx.out, HSx.out, HBx.out⟩
                case measure => simp [intOf]; omega
            · have HLx := Lib.hid hL
              have HMx := Lib.hid hM
              have HSx := Lib.hid hS
              have HBx := Lib.hid hB
              clear hL hM hS hB HLj HMj HSj HBj
              have hx64e : x = 64 := by omega
              subst hx64e
              go_wp2
              go_roundw
              case rel => exact ⟨kk + 1, by omega, by omega, rfl, HLx.out, HMx.out, HSx.out, HBx.out⟩
              case measure => simp [intOf]; omega
        · have HBz := Lib.hid hB
          clear hL hM hS hB HL5 HM5 HS5 HB5
          go_wp2
          go_ret
          exact ⟨rfl, HBz.out⟩
end Go.Proofs.YtofflnklbdhaiaaDoor.EtherHearsW
