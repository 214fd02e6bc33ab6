/- Proves: the law EtherLess's function answers true at every input, and changes nothing that was there; over the table that the library lays. -/
import Derived.Test.YtofflnklbdhaiaaDoorAl
import Derived.Test.YtofflnklbdhaiaaDoorEp
import Derived.Test.YtofflnklbdhaiaaDoorIn
import Derived.Test.YtofflnklbdhaiaaDoorLf
import Derived.Test.YtofflnklbdhaiaaDoorSq
namespace Go.Proofs.YtofflnklbdhaiaaDoor.EtherLessW
open Go.RowKit Go.Proofs.YtofflnklbdhaiaaDoor.Sq Go.Proofs.YtofflnklbdhaiaaDoor.Bk Go.Proofs.YtofflnklbdhaiaaDoor.Rw Go.Proofs.YtofflnklbdhaiaaDoor.Ow Go.Proofs.YtofflnklbdhaiaaDoor.Kp Go.Proofs.YtofflnklbdhaiaaDoor.In Go.Proofs.YtofflnklbdhaiaaDoor.Bl Go.Proofs.YtofflnklbdhaiaaDoor.Tz Go.Proofs.YtofflnklbdhaiaaDoor.Lk Go.Proofs.YtofflnklbdhaiaaDoor.Sc Go.Proofs.YtofflnklbdhaiaaDoor.Rm Go.Proofs.YtofflnklbdhaiaaDoor.Er Go.Proofs.YtofflnklbdhaiaaDoor.Sr Go.Proofs.YtofflnklbdhaiaaDoor.Ak Go.Proofs.YtofflnklbdhaiaaDoor.Bo Go.Proofs.YtofflnklbdhaiaaDoor.Ep Go.Proofs.YtofflnklbdhaiaaDoor.Al
/-- Whole numbers of 64 bits. -/
def Ub (l : List Int) : Prop := ∀ x ∈ l, 0 ≤ x ∧ x < 2 ^ 64
/-- At least as much is lost. -/
def Mo (l m : List Int) : Prop := l.length ≤ m.length ∧ ∀ i k : Nat, i < l.length → (l.getD i 0).toNat.testBit k = true → (m.getD i 0).toNat.testBit k = true
theorem less_law {send awake : Nat} {l m : List Int} (h : Mo l m) (i near : Nat) :
    (earf send awake m i near).1 = (earf send awake l i near).1 ∧ ((earf send awake m i near).2 = 1 → earf send awake l i near = earf send awake m i near) := by
  unfold earf
  by_cases h0 : near = 0
  · rw [if_pos h0, if_pos h0]
    exact ⟨rfl, fun _ => rfl⟩
  rw [if_neg h0, if_neg h0]
  cases send.testBit i with
  | true => exact ⟨rfl, fun _ => rfl⟩
  | false =>
    cases awake.testBit i with
    | false => exact ⟨rfl, fun _ => rfl⟩
    | true =>
      have e1 : ∀ (x y : Int × Int), (if false = true then x else y) = y := fun x y => rfl
      have e2 : ∀ (x y : Int × Int), (if true = true then x else y) = x := fun x y => rfl
      rw [e1, e1, e2, e2]
      by_cases hf : frm near < 0
      · rw [if_pos hf, if_pos hf]
        exact ⟨rfl, fun _ => rfl⟩
      · rw [if_neg hf, if_neg hf]
        by_cases hm : i < m.length ∧ (m.getD i 0).toNat.testBit (frm near).toNat = true
        · rw [if_pos hm]
          refine ⟨?_, fun h1 => ?_⟩
          · split <;> rfl
          · cases h1
        · rw [if_neg hm]
          have hl : ¬ (i < l.length ∧ (l.getD i 0).toNat.testBit (frm near).toNat = true) := fun hl => hm ⟨Nat.lt_of_lt_of_le hl.1 h.1, h.2 i _ hl.1 hl.2⟩
          rw [if_neg hl]
          exact ⟨rfl, fun _ => rfl⟩
theorem mo_set {l m : List Int} (h : Mo l m) {j : Nat} {x : Int} (hx : ∀ k, (m.getD j 0).toNat.testBit k = true → x.toNat.testBit k = true) (hj : j < m.length) : Mo l (m.set j x) := by
  refine ⟨by rw [List.length_set]; exact h.1, fun i k hi hk => ?_⟩
  have h1 := h.2 i k hi hk
  by_cases hc : i = j
  · subst hc
    rw [List.getD_eq_getElem?_getD, List.getElem?_set_self hj]
    exact hx k h1
  · rw [List.getD_eq_getElem?_getD, List.getElem?_set_ne (fun e => hc e.symm), ← List.getD_eq_getElem?_getD]
    exact h1
theorem mo_app {l m : List Int} (h : Mo l m) (x : Int) : Mo l (m ++ [x]) := by
  refine ⟨by rw [List.length_append]; have := h.1; omega, fun i k hi hk => ?_⟩
  have h1 := h.2 i k hi hk
  have hi2 : i < m.length := Nat.lt_of_lt_of_le hi h.1
  rw [List.getD_eq_getElem?_getD, List.getElem?_append_left hi2, ← List.getD_eq_getElem?_getD]
  exact h1
theorem ub_set {m : List Int} (h : Ub m) (j : Nat) {x : Int} (hx : 0 ≤ x ∧ x < 2 ^ 64) : Ub (m.set j x) := fun y hy => by
  rcases List.mem_or_eq_of_mem_set hy with hy | rfl
  · exact h y hy
  · exact hx
theorem ub_app {m : List Int} (h : Ub m) {x : Int} (hx : 0 ≤ x ∧ x < 2 ^ 64) : Ub (m ++ [x]) := fun y hy => by
  rcases List.mem_append.1 hy with hy | hy
  · exact h y hy
  · rw [List.mem_singleton.1 hy]; exact hx
theorem ub_of {l : List Int} (h : ∀ x ∈ l, (Lit.int .u64 x).wf = true) : Ub l := fun x hx => by
  have h := h x hx
  simp only [Lit.wf, Bool.and_eq_true, decide_eq_true_eq] at h
  have h1 : 0 ≤ x ∧ x ≤ 18446744073709551615 := ⟨h.1, h.2⟩
  omega
theorem ri_below {k : IntKind} {w w' : World} {A : Option Addr} {l : List Int} (h : Ri k w A l) (hb : Below w.heap.size w w') : Ri k w' A l := h.below hb
set_option maxRecDepth 100000 in
set_option maxHeartbeats 4000000 in
set_option linter.unusedVariables false in
theorem walk (a0 : Int) (a1 : Option Addr) (len1 cap1 : Nat) (z1 : List (List Value)) (a2 : Int) (a3 : Int) (a4 : Option Addr) (len4 cap4 : Nat) (z4 : List Int) (a5 : Option Addr) (len5 cap5 : Nat) (z5 : List Int) (W : World) (w0 : (Lit.int .i64 a0).wf = true) (l1 : len1 ≤ cap1) (m1 : cap1 ≤ maxLen) (w1 : Lf.RowsAt W [.i .i64, .i .i64] a1 len1 z1) (w2 : (Lit.int .u64 a2).wf = true) (w3 : (Lit.int .u64 a3).wf = true) (w4 : Lf.IsRow .u64 W a4 len4 cap4 z4) (y4 : len4 * 8 ≤ 140737488351232) (w5 : Lf.IsRow .u64 W a5 len5 cap5 z5) (y5 : len5 * 8 ≤ 140737488351232) (wL : Go.Proofs.YtofflnklbdhaiaaDoor.Tz.Tab W) :
    Calls Tryd.prog 4 #[.int .i64 a0, .slice a1 len1 cap1, .int .u64 a2, .int .u64 a3, .slice a4 len4 cap4, .slice a5 len5 cap5] W fun e w' => e = .returned (.bool true) ∧ Below W.heap.size W w' := by
  have u0 : -9223372036854775808 ≤ a0 ∧ a0 ≤ 9223372036854775807 := by
    have h := w0
    simp only [Lit.wf, Bool.and_eq_true, decide_eq_true_eq] at h
    exact ⟨h.1, h.2⟩
  have HT := Lib.hid wL
  have CA := Lib.hid (alive_ok W wL)
  have HW := Lib.hid w1
  have hw0 := wL.1
  clear wL w0 w1
  have ua2 : 0 ≤ a2 ∧ a2 ≤ 18446744073709551615 := by
    have h := w2
    simp only [Lit.wf, Bool.and_eq_true, decide_eq_true_eq] at h
    exact ⟨h.1, h.2⟩
  obtain ⟨sd, rfl⟩ : ∃ sd : Nat, a2 = sd := ⟨a2.toNat, by omega⟩
  clear w2
  have ua3 : 0 ≤ a3 ∧ a3 ≤ 18446744073709551615 := by
    have h := w3
    simp only [Lit.wf, Bool.and_eq_true, decide_eq_true_eq] at h
    exact ⟨h.1, h.2⟩
  obtain ⟨aw, rfl⟩ : ∃ aw : Nat, a3 = aw := ⟨a3.toNat, by omega⟩
  clear w3
  obtain ⟨lo4, rfl, _, _, hR4, hw4⟩ := row_ints w4
  have HR4 := Lib.hid hR4
  have HW4 := Lib.hid (ub_of hw4)
  obtain ⟨lo5, rfl, _, _, hR5, hw5⟩ := row_ints w5
  have HR5 := Lib.hid hR5
  have HW5 := Lib.hid (ub_of hw5)
  clear w4 hR4 hw4 y4 w5 hR5 hw5 y5
  by_cases h1 : a0 < 1
  ·
    go_enter Tryd.func4, Tryd.ntmps4
    go_wp2_with (go_at_call 6; (with_reducible refine Calls.mono CA.out ?_); rintro e wa ⟨rfl, hb⟩; have HBa := Lib.hid hb; clear hb)
    go_ret
    exact ⟨rfl, HBa.out⟩
  by_cases h2 : 64 < a0
  ·
    go_enter Tryd.func4, Tryd.ntmps4
    go_wp2_with (go_at_call 6; (with_reducible refine Calls.mono CA.out ?_); rintro e wa ⟨rfl, hb⟩; have HBa := Lib.hid hb; clear hb)
    go_ret
    exact ⟨rfl, HBa.out⟩
  by_cases h3 : 100 < len1
  · have h4 : (100 : Int) < (len1 : Int) := by omega
    go_enter Tryd.func4, Tryd.ntmps4
    go_wp2_with (go_at_call 6; (with_reducible refine Calls.mono CA.out ?_); rintro e wa ⟨rfl, hb⟩; have HBa := Lib.hid hb; clear hb)
    go_ret
    exact ⟨rfl, HBa.out⟩
  have h4 : ¬ (100 : Int) < (len1 : Int) := by omega
  by_cases h5 : 100 < lo4.length
  · have h6 : (100 : Int) < (lo4.length : Int) := by omega
    go_enter Tryd.func4, Tryd.ntmps4
    go_wp2_with (go_at_call 6; (with_reducible refine Calls.mono CA.out ?_); rintro e wa ⟨rfl, hb⟩; have HBa := Lib.hid hb; clear hb)
    go_ret
    exact ⟨rfl, HBa.out⟩
  have h6 : ¬ (100 : Int) < (lo4.length : Int) := by omega
  by_cases h7 : 100 < lo5.length
  · have h8 : (100 : Int) < (lo5.length : Int) := by omega
    go_enter Tryd.func4, Tryd.ntmps4
    go_wp2_with (go_at_call 6; (with_reducible refine Calls.mono CA.out ?_); rintro e wa ⟨rfl, hb⟩; have HBa := Lib.hid hb; clear hb)
    go_ret
    exact ⟨rfl, HBa.out⟩
  have h8 : ¬ (100 : Int) < (lo5.length : Int) := by omega
  obtain ⟨n, rfl⟩ : ∃ n : Nat, a0 = n := ⟨a0.toNat, by omega⟩
  go_enter Tryd.func4, Tryd.ntmps4
  go_wp2_with (go_at_call 6; (with_reducible refine Calls.mono CA.out ?_); rintro e wa ⟨rfl, hb⟩; have HBa := Lib.hid hb; clear hb)
  have CB := Lib.hid (both_ok n a1 len1 cap1 z1 wa (by omega) (by omega) (HW.out.below HBa.out) (by omega))
  go_wp2_with (first
    | (go_at_call 7
       (with_reducible refine Calls.mono CB.out ?_)
       rintro e w1 ⟨⟨p, g, m, rfl, hL, _, _, _, _⟩, hb⟩
       go_wp2_with (at_builtin; refine wp_append .u64 23 _ w1.heap.size (.int .u64 0) 8 rfl _ _ 24 rfl Tryd.underlying24 (by kernel_rfl) rfl (.slice (some ⟨w1.heap.size, 0, none⟩) 0 0) [] _ _ lo4 _ rfl rfl rfl (Oi.lit .u64 23 w1 w1.heap.size (Nat.le_refl _) [] (by simp) #[] rfl) ((ri_below HR4.out (HBa.out.trans (hb.mono HBa.out.size))).alloc _) ?_ ?_ ?_ ?_)))
  · unfold maxLen; simp; omega
  · simp; omega
  · simp
  intro v2 w2 ho hg _
  have hsy : Sy (runp (List.replicate n 0) z1) := sy_runp z1 (Sy.none n) (by simp; omega)
  have hal : (runp (List.replicate n 0) z1).length = n := by rw [runp_length, List.length_replicate]
  generalize runp (List.replicate n 0) z1 = a at hL hsy hal
  have HB1 := Lib.hid (HBa.out.trans (hb.mono HBa.out.size))
  have hs1 := HB1.out.size
  have HL1 := Lib.hid hL
  have HB2 := Lib.hid (((Below.refl w1.heap.size w1).alloc (Nat.le_refl _) (.cells #[] 23)).grown hg (by simp) (fun q hq => by simp [Value.ownBlock] at hq; omega))
  have HO2 := Lib.hid (show Oi .u64 23 w2 w1.heap.size v2 lo4 from ho)
  have HM0 := Lib.hid (show Mo lo4 lo4 from ⟨Nat.le_refl _, fun _ _ _ h => h⟩)
  have HRB := Lib.hid (fun w' (h : Below w1.heap.size w1 w') => ri_below HR5.out (HB1.out.trans (h.mono HB1.out.size)))
  clear ho hg hb hL CB HBa hsy
  go_wp2
  go_loopw [15, 55] (fun v i wr => ∃ (k : Nat) (mm : List Int), k ≤ lo5.length ∧ i = .int .i64 k ∧ Oi .u64 23 wr w1.heap.size v mm ∧ Mo lo4 mm ∧ Ub mm ∧ mm.length ≤ lo4.length + k ∧ Below w1.heap.size w1 wr) (fun _ i _ => lo5.length - (intOf i).toNat)
  case atStart => exact ⟨0, lo4, Nat.zero_le _, rfl, HO2.out, HM0.out, HW4.out, Nat.le_refl _, HB2.out⟩
  case round =>
    obtain ⟨k, mm, hk, rfl, hO, hM, hU, hlen, hB⟩ := hrel
    by_cases hkn : k < lo5.length
    · have kn : (k : Int) < (lo5.length : Int) := by omega
      obtain ⟨ad, rfl, hadl, hcell⟩ := (HRB.out wr hB).at_ hkn
      have hx5 := HW5.out _ (show lo5.getD k 0 ∈ lo5 by rw [List.getD_eq_getElem?_getD, List.getElem?_eq_getElem hkn]; exact List.getElem_mem hkn)
      obtain ⟨y, hy⟩ : ∃ y : Nat, lo5.getD k 0 = y := ⟨(lo5.getD k 0).toNat, by omega⟩
      rw [hy] at hcell hx5
      have hsw := hB.size
      by_cases hkm : k < mm.length
      · have km : (k : Int) < (mm.length : Int) := by omega
        rcases hO.form with ⟨_, h0⟩ | ⟨q, c, rfl, hq1, hq2, hq3, hq4, hqc, hqf⟩
        · rw [h0] at hkm
          simp at hkm
        · have hxm := hU _ (show mm.getD k 0 ∈ mm by rw [List.getD_eq_getElem?_getD, List.getElem?_eq_getElem hkm]; exact List.getElem_mem hkm)
          obtain ⟨z, hzz⟩ : ∃ z : Nat, mm.getD k 0 = z := ⟨(mm.getD k 0).toNat, by omega⟩
          have hc : wr.cell? ⟨q, k, none⟩ = some (.int .u64 (z : Int)) := hqc k _ (by rw [← hzz, List.getD_eq_getElem?_getD, List.getElem?_eq_getElem hkm]; rfl)
          have hfr := hqf k
          have hor : bits BinOp.or IntKind.u64 (z : Int) (y : Int) = ((z ||| y : Nat) : Int) := bits_or_u64_nat _ _ (by omega) (by omega)
          have HOS := Lib.hid (hO.set_ k ((z ||| y : Nat) : Int))
          have HMS := Lib.hid (mo_set hM (j := k) (x := ((z ||| y : Nat) : Int)) (fun b hb => by
            rw [hzz, Int.toNat_natCast] at hb
            rw [Int.toNat_natCast, Nat.testBit_or, hb]
            rfl) hkm)
          have HUS := Lib.hid (ub_set hU k (x := ((z ||| y : Nat) : Int)) ⟨by omega, by have := Nat.or_lt_two_pow (x := z) (y := y) (n := 64) (by omega) (by omega); omega⟩)
          have HBS := Lib.hid (hB.setCell (p := ⟨q, k, none⟩) hq1 (.int .u64 ((z ||| y : Nat) : Int)))
          clear hO hM hU hB hqc hqf hzz hxm HO2 HB2 HM0
          go_wp2
          go_roundw
          case rel => exact ⟨k + 1, _, by omega, by go_num, HOS.out.1, HMS.out, HUS.out, by rw [List.length_set]; omega, HBS.out⟩
          case measure => simp [intOf]; omega
      · have km : ¬ (k : Int) < (mm.length : Int) := by omega
        obtain ⟨A, c, rfl, _, _⟩ := hO.ri
        have HM := Lib.hid (mo_app hM (y : Int))
        have HU := Lib.hid (ub_app hU (x := (y : Int)) hx5)
        have HB := Lib.hid hB
        have HO := Lib.hid hO
        have HON := Lib.hid (hO.alloc (.cells #[.int .u64 (y : Int)] 23))
        have HRN := Lib.hid (Ri.lit .u64 23 wr [(y : Int)] (by unfold maxLen; simp) #[.int .u64 (y : Int)] rfl (mk := (0, 0)))
        clear hO hM hU hB HO2 HB2 HM0
        go_wp2_with (at_builtin; refine wp_append .u64 23 _ w1.heap.size (.int .u64 0) 8 rfl _ _ 24 rfl Tryd.underlying24 (by kernel_rfl) rfl (.slice A mm.length c) mm _ _ [(y : Int)] _ rfl rfl rfl HON.out HRN.out ?_ ?_ ?_ ?_)
        · unfold maxLen; first | omega | (simp; omega)
        · first | omega | (simp; omega)
        · first | omega | (simp; omega)
        intro v3 w3 ho hg _
        have HO3 := Lib.hid ho
        have HB3 := Lib.hid ((HB.out.alloc (by omega) (.cells #[.int .u64 (y : Int)] 23)).grown hg (by simp; omega) (fun q hq => (HON.out.owner q hq).1))
        clear ho hg HON HRN HO HB
        go_wp2
        go_roundw
        case rel => exact ⟨k + 1, _, by omega, by go_num, HO3.out, HM.out, HU.out, by rw [List.length_append, List.length_singleton]; omega, HB3.out⟩
        case measure => simp [intOf]; omega
    · have hke : k = lo5.length := by omega
      subst hke
      have HLe := Lib.hid (HL1.out.below hB)
      have HBe := Lib.hid (HB1.out.trans (hB.mono HB1.out.size))
      have HTe := Lib.hid (HT.out.below HBe.out hw0)
      have HRe := Lib.hid (ri_below HR4.out HBe.out)
      have HM := Lib.hid hM
      have HU := Lib.hid hU
      obtain ⟨A, c, rfl, hAc, hRA⟩ := hO.ri
      have HRA := Lib.hid hRA
      have CS := Lib.hid (step_ok (some ⟨p, 0, none⟩) a sd aw lo4 a4 cap4 wr (.inr ⟨p, g, rfl, HLe.out⟩) (by omega) (by omega) (by omega) HRe.out HW4.out HTe.out)
      clear hO hM hU hB hRA hAc HO2 HB2 HM0 HB1 HL1 HRe
      go_wp2_with (go_at_call 8; (with_reducible refine Calls.mono CS.out ?_); rintro e w4 ⟨⟨v, rfl, hv⟩, hb⟩)
      obtain ⟨g1, k1, rfl, _, hes1, hk1⟩ := hv.es (by rw [ears_length]; omega)
      rw [ears_length, hal] at hk1
      rw [ears_length, hal]
      have HB4 := Lib.hid (HBe.out.trans (hb.mono HBe.out.size))
      have HL4 := Lib.hid (HLe.out.below hb)
      have HT4 := Lib.hid (HTe.out.below hb HTe.out.1)
      rw [hal] at hes1
      have HS4 := Lib.hid hes1
      have CS2 := Lib.hid (step_ok (some ⟨p, 0, none⟩) a sd aw mm A c w4 (.inr ⟨p, g, rfl, HL4.out⟩) (by omega) (by omega) (by omega) (ri_below HRA.out hb) HU.out HT4.out)
      have HA1 := Lib.hid (fun x (hx : x < n) => ears_at a sd aw lo4 n hx)
      have HA2 := Lib.hid (fun x (hx : x < n) => ears_at a sd aw mm n hx)
      have HLN1 := Lib.hid (ears_length a sd aw lo4 n)
      have HLN2 := Lib.hid (ears_length a sd aw mm n)
      have HLW := Lib.hid (fun x near => less_law (send := sd) (awake := aw) HM.out x near)
      clear hb hes1 hv CS HBe HLe HTe HRA
      go_wp2_with (first
        | (go_at_call 8
           (with_reducible refine Calls.mono CS2.out ?_)
           rintro e w5 ⟨⟨v, rfl, hv⟩, hb⟩
           obtain ⟨g2, k2, rfl, _, hes2, hk2⟩ := hv.es (by rw [ears_length]; omega)
           rw [ears_length, hal] at hk2
           rw [ears_length, hal]
           rw [hal] at hes2
           have HB5 := Lib.hid (HB4.out.trans (hb.mono HB4.out.size))
           have HS5 := Lib.hid (HS4.out.keeps hb)
           have HR5b := Lib.hid hes2
           clear hb hes2 hv CS2 HB4 HL4 HT4 HS4))
      generalize ears a sd aw lo4 n = e1 at HS5 HA1 HLN1
      generalize ears a sd aw mm n = e2 at HR5b HA2 HLN2
      go_loopw [100] (fun i wr => ∃ x : Nat, x ≤ n ∧ i = .int .i64 x ∧ Es wr g1 e1 ∧ Es wr g2 e2 ∧ Below W.heap.size W wr) (fun i _ => n - (intOf i).toNat)
      case atStart => exact ⟨0, Nat.zero_le _, rfl, HS5.out, HR5b.out, HB5.out⟩
      case round =>
        obtain ⟨x, hx, rfl, hS, hR, hB⟩ := hrel
        by_cases hxn : x < n
        · have xn : (x : Int) < (n : Int) := by omega
          obtain ⟨s0, s1⟩ := hS.2 x (by rw [HLN1.out]; exact hxn)
          obtain ⟨r0, r1⟩ := hR.2 x (by rw [HLN2.out]; exact hxn)
          have hlw := HLW.out x (a.getD x 0 &&& sd)
          rw [← HA1.out x hxn, ← HA2.out x hxn] at hlw
          have HSx := Lib.hid (show Es wr.drew g1 e1 from hS)
          have HRx := Lib.hid (show Es wr.drew g2 e2 from hR)
          have HBx := Lib.hid hB.drew
          generalize e1.getD x (0, 0) = y1 at s0 s1 hlw
          generalize e2.getD x (0, 0) = y2 at r0 r1 hlw
          obtain ⟨u1, v1⟩ := y1
          obtain ⟨u2, v2⟩ := y2
          dsimp only at s0 s1 r0 r1 hlw
          obtain ⟨h1, h2⟩ := hlw
          subst h1
          have s0 : wr.drew.cell? ⟨g1, x * 2, none⟩ = some (.int .i64 u2) := s0
          have s1 : wr.drew.cell? ⟨g1, x * 2 + 1, none⟩ = some (.int .i64 v1) := s1
          have r0 : wr.drew.cell? ⟨g2, x * 2, none⟩ = some (.int .i64 u2) := r0
          have r1 : wr.drew.cell? ⟨g2, x * 2 + 1, none⟩ = some (.int .i64 v2) := r1
          have uu : (u2 == u2) = true := by simp
          have un : (u2 != u2) = false := by simp
          clear hS hR hB HS5 HR5b HB5
          by_cases hv : v2 = 1
          · have h3 := h2 hv
            have h4 : v1 = v2 := congrArg Prod.snd h3
            clear h3 h2
            subst h4
            have q0 : (v1 == 1) = true := by simpa using hv
            have q1 : (v1 == v1) = true := by simp
            clear hv
            go_wp2
            refine wp_region_seq [(0, true), (1, true), (2, true), (3, true), (4, true), (5, true), (6, true), (7, true), (8, true), (9, true), (10, true), (11, true), (12, true), (13, true), (14, true), (15, true), (16, true), (17, true), (18, true), (19, true), (20, true), (21, true), (22, true), (23, true), (24, true), (25, true), (26, true), (27, true), (28, true), (29, true)] (fun w' => w'.cell? ⟨g1, x * 2, none⟩ = some (.int .i64 u2) ∧ w'.cell? ⟨g1, x * 2 + 1, none⟩ = some (.int .i64 v1) ∧ w'.cell? ⟨g2, x * 2, none⟩ = some (.int .i64 u2) ∧ w'.cell? ⟨g2, x * 2 + 1, none⟩ = some (.int .i64 v1)) (by kernel_rfl) (by kernel_rfl) ⟨s0, s1, r0, r1⟩ (fun hHeld => ?_)
            clear s0 s1 r0 r1
            simp only [List.map_cons, List.map_nil, List.getElem?_toArray, List.getElem?_cons_zero, List.getElem?_cons_succ]
            repeat (first | (refine seq_skip (by rfl) ?_; try simp only [Act.put, List.setIfInBounds_toArray, List.set_cons_zero, List.set_cons_succ]) | (refine seq_not (by rfl) (by assumption) ?_; try simp only [Act.put, List.setIfInBounds_toArray, List.set_cons_zero, List.set_cons_succ]) | (refine seq_take (v := ?_) (by rfl) ?_ ?_; rotate_left; (focus ((intro w hSw; (try dsimp only at hSw); go_simp; (try with_reducible rfl)); done)); try simp only [Act.put, List.setIfInBounds_toArray, List.set_cons_zero, List.set_cons_succ]))
            clear hHeld
            refine seq_done ?_
            go_wp2
            go_roundw
            case rel => exact ⟨x + 1, by omega, by go_num, HSx.out, HRx.out, HBx.out⟩
            case measure => simp [intOf]; omega
          · have q0 : (v2 == 1) = false := by simpa using hv
            clear h2
            go_wp2
            refine wp_region_seq [(0, true), (1, true), (2, true), (3, true), (4, true), (5, true), (6, true), (7, true), (8, true), (9, true), (10, true), (11, true), (12, true), (13, true), (14, true), (15, true), (16, true), (17, true), (18, true), (19, true), (20, true), (21, true), (22, true), (23, true), (24, true), (25, true), (26, true), (27, true), (28, true), (29, true)] (fun w' => w'.cell? ⟨g1, x * 2, none⟩ = some (.int .i64 u2) ∧ w'.cell? ⟨g1, x * 2 + 1, none⟩ = some (.int .i64 v1) ∧ w'.cell? ⟨g2, x * 2, none⟩ = some (.int .i64 u2) ∧ w'.cell? ⟨g2, x * 2 + 1, none⟩ = some (.int .i64 v2)) (by kernel_rfl) (by kernel_rfl) ⟨s0, s1, r0, r1⟩ (fun hHeld => ?_)
            clear s0 s1 r0 r1
            simp only [List.map_cons, List.map_nil, List.getElem?_toArray, List.getElem?_cons_zero, List.getElem?_cons_succ]
            repeat (first | (refine seq_skip (by rfl) ?_; try simp only [Act.put, List.setIfInBounds_toArray, List.set_cons_zero, List.set_cons_succ]) | (refine seq_not (by rfl) (by assumption) ?_; try simp only [Act.put, List.setIfInBounds_toArray, List.set_cons_zero, List.set_cons_succ]) | (refine seq_take (v := ?_) (by rfl) ?_ ?_; rotate_left; (focus ((intro w hSw; (try dsimp only at hSw); go_simp; (try with_reducible rfl)); done)); try simp only [Act.put, List.setIfInBounds_toArray, List.set_cons_zero, List.set_cons_succ]))
            clear hHeld
            refine seq_done ?_
            go_wp2
            go_roundw
            case rel => exact ⟨x + 1, by omega, by go_num, HSx.out, HRx.out, HBx.out⟩
            case measure => simp [intOf]; omega
        · have HBz := Lib.hid hB
          clear hS hR hB HS5 HR5b HB5
          go_wp2
          go_ret
          exact ⟨rfl, HBz.out⟩
end Go.Proofs.YtofflnklbdhaiaaDoor.EtherLessW
