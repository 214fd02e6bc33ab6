/- Proves: the law EtherOne's function answers true at every input, and changes nothing that was there; over the table that the library lays. -/
import Derived.Test.YtofflnklbdhaiaaDoorAl
import Derived.Test.YtofflnklbdhaiaaDoorEp
import Derived.Test.YtofflnklbdhaiaaDoorIn
import Derived.Test.YtofflnklbdhaiaaDoorLf
import Derived.Test.YtofflnklbdhaiaaDoorSq
namespace Go.Proofs.YtofflnklbdhaiaaDoor.EtherOneW
open Go.RowKit Go.Proofs.YtofflnklbdhaiaaDoor.Sq Go.Proofs.YtofflnklbdhaiaaDoor.Bk Go.Proofs.YtofflnklbdhaiaaDoor.Rw Go.Proofs.YtofflnklbdhaiaaDoor.Ow Go.Proofs.YtofflnklbdhaiaaDoor.Kp Go.Proofs.YtofflnklbdhaiaaDoor.In Go.Proofs.YtofflnklbdhaiaaDoor.Bl Go.Proofs.YtofflnklbdhaiaaDoor.Tz Go.Proofs.YtofflnklbdhaiaaDoor.Lk Go.Proofs.YtofflnklbdhaiaaDoor.Sc Go.Proofs.YtofflnklbdhaiaaDoor.Rf Go.Proofs.YtofflnklbdhaiaaDoor.Rm Go.Proofs.YtofflnklbdhaiaaDoor.Er Go.Proofs.YtofflnklbdhaiaaDoor.Sr Go.Proofs.YtofflnklbdhaiaaDoor.Ak Go.Proofs.YtofflnklbdhaiaaDoor.Bo Go.Proofs.YtofflnklbdhaiaaDoor.Ep Go.Proofs.YtofflnklbdhaiaaDoor.Al
theorem ri_below {k : IntKind} {w w' : World} {A : Option Addr} {l : List Int} (h : Ri k w A l) (hb : Below w.heap.size w w') : Ri k w' A l := h.below hb
set_option maxRecDepth 100000 in
set_option maxHeartbeats 4000000 in
set_option linter.unusedVariables false in
theorem walk (a0 : Int) (a1 : Option Addr) (len1 cap1 : Nat) (z1 : List (List Value)) (a2 : Int) (a3 : Int) (a4 : Int) (a5 : Option Addr) (len5 cap5 : Nat) (z5 : List Int) (W : World) (w0 : (Lit.int .i64 a0).wf = true) (l1 : len1 ≤ cap1) (m1 : cap1 ≤ maxLen) (w1 : Lf.RowsAt W [.i .i64, .i .i64] a1 len1 z1) (w2 : (Lit.int .i64 a2).wf = true) (w3 : (Lit.int .u64 a3).wf = true) (w4 : (Lit.int .u64 a4).wf = true) (w5 : Lf.IsRow .u64 W a5 len5 cap5 z5) (y5 : len5 * 8 ≤ 140737488351232) (wL : Go.Proofs.YtofflnklbdhaiaaDoor.Tz.Tab W) :
    Calls Tryd.prog 5 #[.int .i64 a0, .slice a1 len1 cap1, .int .i64 a2, .int .u64 a3, .int .u64 a4, .slice a5 len5 cap5] W fun e w' => e = .returned (.bool true) ∧ Below W.heap.size W w' := by
  have u0 : -9223372036854775808 ≤ a0 ∧ a0 ≤ 9223372036854775807 := by
    have h := w0
    simp only [Lit.wf, Bool.and_eq_true, decide_eq_true_eq] at h
    exact ⟨h.1, h.2⟩
  have HT := Lib.hid wL
  have CA := Lib.hid (alive_ok W wL)
  have HW := Lib.hid w1
  have hw0 := wL.1
  clear wL w0 w1
  have v2 : -9223372036854775808 ≤ a2 ∧ a2 ≤ 9223372036854775807 := by
    have h := w2
    simp only [Lit.wf, Bool.and_eq_true, decide_eq_true_eq] at h
    exact ⟨h.1, h.2⟩
  have ua3 : 0 ≤ a3 ∧ a3 ≤ 18446744073709551615 := by
    have h := w3
    simp only [Lit.wf, Bool.and_eq_true, decide_eq_true_eq] at h
    exact ⟨h.1, h.2⟩
  obtain ⟨sd, rfl⟩ : ∃ sd : Nat, a3 = sd := ⟨a3.toNat, by omega⟩
  clear w3
  have ua4 : 0 ≤ a4 ∧ a4 ≤ 18446744073709551615 := by
    have h := w4
    simp only [Lit.wf, Bool.and_eq_true, decide_eq_true_eq] at h
    exact ⟨h.1, h.2⟩
  obtain ⟨aw, rfl⟩ : ∃ aw : Nat, a4 = aw := ⟨a4.toNat, by omega⟩
  clear w4
  obtain ⟨lo5, rfl, q5, q6, hR5, hw5⟩ := row_ints w5
  have HR5 := Lib.hid hR5
  have HW5 := Lib.hid (show ∀ x ∈ lo5, 0 ≤ x ∧ x < 2 ^ 64 from fun x hx => by
    have h := hw5 x hx
    simp only [Lit.wf, Bool.and_eq_true, decide_eq_true_eq] at h
    have h1 : 0 ≤ x ∧ x ≤ 18446744073709551615 := ⟨h.1, h.2⟩
    omega)
  clear w5 hR5 hw5 y5 w2
  by_cases h1 : a0 < 1
  ·
    go_enter Tryd.func5, Tryd.ntmps5
    go_wp2_with (go_at_call 6; (with_reducible refine Calls.mono CA.out ?_); rintro e wa ⟨rfl, hb⟩; have HBa := Lib.hid hb; clear hb)
    go_ret
    exact ⟨rfl, HBa.out⟩
  by_cases h2 : 64 < a0
  ·
    go_enter Tryd.func5, Tryd.ntmps5
    go_wp2_with (go_at_call 6; (with_reducible refine Calls.mono CA.out ?_); rintro e wa ⟨rfl, hb⟩; have HBa := Lib.hid hb; clear hb)
    go_ret
    exact ⟨rfl, HBa.out⟩
  by_cases h3 : 100 < len1
  · have h4 : (100 : Int) < (len1 : Int) := by omega
    go_enter Tryd.func5, Tryd.ntmps5
    go_wp2_with (go_at_call 6; (with_reducible refine Calls.mono CA.out ?_); rintro e wa ⟨rfl, hb⟩; have HBa := Lib.hid hb; clear hb)
    go_ret
    exact ⟨rfl, HBa.out⟩
  have h4 : ¬ (100 : Int) < (len1 : Int) := by omega
  by_cases h5 : 100 < lo5.length
  · have h6 : (100 : Int) < (lo5.length : Int) := by omega
    go_enter Tryd.func5, Tryd.ntmps5
    go_wp2_with (go_at_call 6; (with_reducible refine Calls.mono CA.out ?_); rintro e wa ⟨rfl, hb⟩; have HBa := Lib.hid hb; clear hb)
    go_ret
    exact ⟨rfl, HBa.out⟩
  have h6 : ¬ (100 : Int) < (lo5.length : Int) := by omega
  by_cases h7 : a2 < 0
  ·
    go_enter Tryd.func5, Tryd.ntmps5
    go_wp2_with (go_at_call 6; (with_reducible refine Calls.mono CA.out ?_); rintro e wa ⟨rfl, hb⟩; have HBa := Lib.hid hb; clear hb)
    go_ret
    exact ⟨rfl, HBa.out⟩
  by_cases h8 : a0 ≤ a2
  ·
    go_enter Tryd.func5, Tryd.ntmps5
    go_wp2_with (go_at_call 6; (with_reducible refine Calls.mono CA.out ?_); rintro e wa ⟨rfl, hb⟩; have HBa := Lib.hid hb; clear hb)
    go_ret
    exact ⟨rfl, HBa.out⟩
  obtain ⟨n, rfl⟩ : ∃ n : Nat, a0 = n := ⟨a0.toNat, by omega⟩
  obtain ⟨f, rfl⟩ : ∃ f : Nat, a2 = f := ⟨a2.toNat, by omega⟩
  have hf64 : f < 64 := by omega
  have hwf : IntKind.u64.wrap (f : Int) = (f : Int) := by rw [IntKind.wrap_u64]; omega
  have hP : IntKind.u64.wrap ((2 : Int) ^ f) = ((2 ^ f : Nat) : Int) := by
    have h2i : 2 ^ f < 2 ^ 64 := Nat.pow_lt_pow_right (by decide) hf64
    have e : ((2 : Int) ^ f) = ((2 ^ f : Nat) : Int) := by simp
    rw [IntKind.wrap_u64, e]
    generalize 2 ^ f = m at h2i ⊢
    omega
  have HPE := Lib.hid hP
  clear hP
  go_enter Tryd.func5, Tryd.ntmps5
  go_wp2_with (go_at_call 6; (with_reducible refine Calls.mono CA.out ?_); rintro e wa ⟨rfl, hb⟩; have HBa := Lib.hid hb; clear hb)
  have CB := Lib.hid (both_ok n a1 len1 cap1 z1 wa (by omega) (by omega) (HW.out.below HBa.out) (by omega))
  go_wp2_with (go_at_call 7; (with_reducible refine Calls.mono CB.out ?_); rintro e w1 ⟨⟨p, g, m, rfl, hL, _, _, _, _⟩, hb⟩)
  have hsy : Sy (runp (List.replicate n 0) z1) := sy_runp z1 (Sy.none n) (by simp; omega)
  have hal : (runp (List.replicate n 0) z1).length = n := by rw [runp_length, List.length_replicate]
  generalize runp (List.replicate n 0) z1 = a at hL hsy hal
  have HB1 := Lib.hid (HBa.out.trans (hb.mono HBa.out.size))
  have HL1 := Lib.hid hL
  have HT1 := Lib.hid (HT.out.below HB1.out hw0)
  have hP64 : 2 ^ f < 2 ^ 64 := Nat.pow_lt_pow_right (by decide) hf64
  have HP1 := Lib.hid (fun (i : Nat) => earf_one hsy (f := f) (i := i) hf64 aw)
  obtain ⟨P, hPP⟩ : ∃ P, 2 ^ f = P := ⟨_, rfl⟩
  rw [hPP] at HPE hP64 HP1
  have CS := Lib.hid (show Calls Tryd.prog 8 #[.pointer (some ⟨p, 0, none⟩), .int .u64 (IntKind.u64.wrap ((2 : Int) ^ f)), .int .u64 aw, .slice none 0 0] w1 fun e w' => (∃ v, e = .returned v ∧ Ro w' w1.heap.size v (ears a P aw [] a.length)) ∧ Below w1.heap.size w1 w' by rw [HPE.out]; exact step_ok (some ⟨p, 0, none⟩) a P aw [] none 0 w1 (.inr ⟨p, g, rfl, hL⟩) (by omega) hP64 (by omega) Ri.nil (fun x hx => nomatch hx) HT1.out)
  clear hb hL CB HBa hPP hP64
  go_wp2_with (go_at_call 8; (with_reducible refine Calls.mono CS.out ?_); rintro e w2 ⟨⟨v, rfl, hv⟩, hb⟩)
  obtain ⟨g1, k1, rfl, _, hes1, hk1⟩ := hv.es (by rw [ears_length]; omega)
  rw [ears_length, hal] at hk1 ⊢
  have HB2 := Lib.hid (HB1.out.trans (hb.mono HB1.out.size))
  have HL2 := Lib.hid (HL1.out.below hb)
  have HT2 := Lib.hid (HT1.out.below hb HT1.out.1)
  have HS2 := Lib.hid hes1
  have CS2 := Lib.hid (step_ok (some ⟨p, 0, none⟩) a sd aw lo5 a5 cap5 w2 (.inr ⟨p, g, rfl, HL2.out⟩) (by omega) (by omega) (by omega) (ri_below HR5.out HB2.out) HW5.out HT2.out)
  clear hb hes1 hv CS HB1 HL1 HT1
  go_wp2_with (first
    | (go_at_call 8
       (with_reducible refine Calls.mono CS2.out ?_)
       rintro e w3 ⟨⟨v, rfl, hv⟩, hb⟩
       obtain ⟨g2, k2, rfl, _, hes2, hk2⟩ := hv.es (by rw [ears_length]; omega)
       rw [ears_length, hal] at hk2
       rw [ears_length, hal]
       have HB3 := Lib.hid (HB2.out.trans (hb.mono HB2.out.size))
       have HL3 := Lib.hid (HL2.out.below hb)
       have HS3 := Lib.hid (HS2.out.keeps hb)
       have HR3 := Lib.hid hes2
       have HA1 := Lib.hid (fun x (hx : x < n) => ears_at a P aw [] n hx)
       have HA2 := Lib.hid (fun x (hx : x < n) => ears_at a sd aw lo5 n hx)
       have HLN1 := Lib.hid (ears_length a P aw [] n)
       have HLN2 := Lib.hid (ears_length a sd aw lo5 n)
       have HSY := Lib.hid hsy
       rw [hal] at hes2
       have HS3 := Lib.hid (show Es w3 g1 (ears a P aw [] n) by rw [← hal]; exact HS3.out)
       have HR3 := Lib.hid (show Es w3 g2 (ears a sd aw lo5 n) by rw [← hal]; exact HR3.out)
       clear hb hes2 hv CS2 HB2 HL2 HT2 HS2 hsy
       generalize ears a P aw [] n = e1 at HS3 HA1 HLN1
       generalize ears a sd aw lo5 n = e2 at HR3 HA2 HLN2))
  go_loopw [17] (fun i wr => ∃ x : Nat, x ≤ n ∧ i = .int .i64 x ∧ Ln wr p g a ∧ Es wr g1 e1 ∧ Es wr g2 e2 ∧ Below W.heap.size W wr) (fun i _ => n - (intOf i).toNat)
  case atStart => exact ⟨0, Nat.zero_le _, rfl, HL3.out, HS3.out, HR3.out, HB3.out⟩
  case round =>
    obtain ⟨x, hx, rfl, hL, hS, hR, hB⟩ := hrel
    by_cases hxn : x < n
    · have xn : (x : Int) < (n : Int) := by omega
      have s1 : wr.drew.cell? ⟨g1, x * 2 + 1, none⟩ = some (.int .i64 (e1.getD x (0, 0)).2) := (hS.2 x (by rw [HLN1.out]; exact hxn)).2
      obtain ⟨r1, r2⟩ := hR.2 x (by rw [HLN2.out]; exact hxn)
      have r1 : wr.drew.cell? ⟨g2, x * 2, none⟩ = some (.int .i64 (e2.getD x (0, 0)).1) := r1
      have r2 : wr.drew.cell? ⟨g2, x * 2 + 1, none⟩ = some (.int .i64 (e2.getD x (0, 0)).2) := r2
      have hy := HP1.out x
      rw [← HA1.out x hxn] at hy
      rw [hy] at s1
      have hh : ∀ hn : (e2.getD x (0, 0)).2 = 1, _ := fun hn => earf_heard (send := sd) (awake := aw) (lost := lo5) (i := x) (near := a.getD x 0 &&& sd) (Nat.lt_of_le_of_lt Nat.and_le_right (by omega)) (by rw [← HA2.out x hxn]; exact hn)
      rw [← HA2.out x hxn] at hh
      have HHN := Lib.hid hh
      have CH := Lib.hid (fun w' (hl : Ln w' p g a) => has_nat p g a x f (by omega) (by omega) w' hl)
      have CI := Lib.hid (fun w' => in_ok aw x w')
      rw [inb_nat aw x (by omega)] at CI
      have CJ := Lib.hid (fun w' => in_ok sd x w')
      rw [inb_nat sd x (by omega)] at CJ
      have HLx := Lib.hid hL
      have HSx := Lib.hid (show Es wr.drew g1 e1 from hS)
      have HRx := Lib.hid (show Es wr.drew g2 e2 from hR)
      have HBx := Lib.hid hB
      clear hL hS hR hB hy hh HL3 HS3 HR3 HB3
      generalize (e2.getD x (0, 0)).1 = u at r1 HHN
      generalize (e2.getD x (0, 0)).2 = v at r2 HHN
      have CX := CI
      cases hbx : B a x f with
      | false =>
        rw [hbx] at CH s1
        rw [if_neg (by decide)] at s1
        clear hbx
        go_wp2
        refine wp_region_seq [(0, true), (1, true), (2, true), (3, false), (4, true), (5, true), (6, true), (8, true), (9, true), (10, true), (11, true), (12, true), (13, true), (7, false), (14, true), (15, true), (16, true), (17, true), (18, true), (19, true), (20, false), (21, true), (22, true), (23, true), (24, true), (25, true), (26, true), (27, true), (28, true), (29, true), (30, true)] (fun w' => w'.cell? ⟨g1, x * 2 + 1, none⟩ = some (.int .i64 0)) (by kernel_rfl) (by kernel_rfl) s1 (fun hHeld => ?_)
        clear s1
        simp only [List.map_cons, List.map_nil, List.getElem?_toArray, List.getElem?_cons_zero, List.getElem?_cons_succ]
        repeat (first
          | (first | (refine seq_skip (by rfl) ?_; try simp only [Act.put, List.setIfInBounds_toArray, List.set_cons_zero, List.set_cons_succ]) | (refine seq_not (by rfl) (by assumption) ?_; try simp only [Act.put, List.setIfInBounds_toArray, List.set_cons_zero, List.set_cons_succ]) | (refine seq_take (v := ?_) (by rfl) ?_ ?_; rotate_left; (focus ((intro w hSw; (try dsimp only at hSw); go_simp; (try with_reducible rfl)); done)); try simp only [Act.put, List.setIfInBounds_toArray, List.set_cons_zero, List.set_cons_succ]))
          | (refine seq_do (fun K hK => ?_); go_simp; (first | (go_at_call 12; (with_reducible refine Calls.mono (CH.out _ HLx.out.drew_) ?_)) | (go_at_call 11; (with_reducible refine Calls.mono (CX.out _) ?_))); rintro e w7 ⟨rfl, rfl⟩; dsimp only; refine hK.out _ _ hHeld (fun _ => ?_); clear hK K))
        refine seq_done ?_
        clear hHeld
        have hb0 : Below wr.heap.size wr (wr.alloc (.cells #[.int .i64 u, .int .i64 v] 35)).drew := ((Below.refl _ _).alloc (Nat.le_refl _) _).drew
        have HLy := Lib.hid (HLx.out.below hb0)
        have HSy := Lib.hid ((show Es wr g1 e1 from HSx.out).keeps hb0)
        have HRy := Lib.hid ((show Es wr g2 e2 from HRx.out).keeps hb0)
        have HBy := Lib.hid (HBx.out.trans (hb0.mono HBx.out.size))
        have z0 := (Blk.new wr 35 #[.int .i64 u, .int .i64 v]).drew.cell 0
        have z1' := (Blk.new wr 35 #[.int .i64 u, .int .i64 v]).drew.cell 1
        clear hb0 HLx HSx HRx HBx
        by_cases hv1 : v = 1
        · obtain ⟨t1, t2, k, t3, t4⟩ := HHN.out hv1
          subst t3 hv1
          rw [Nat.testBit_and, Bool.and_eq_true] at t4
          have hkn := (HSY.out.lt (i := x) (k := k) t4.1).2
          have CK := Lib.hid (has_nat p g a x k (by omega) hkn _ HLy.out)
          rw [show B a x k = true from t4.1] at CK
          have CL := Lib.hid (fun w' => in_ok sd k w')
          rw [inb_nat sd k (by omega), t4.2] at CL
          rw [t1] at CJ
          rw [t2] at CI
          clear t1 t2 t4 HHN CH CX
          go_wp2_with (first
            | (go_at_call 12; (with_reducible refine Calls.mono CK.out ?_); rintro e w7 ⟨rfl, rfl⟩)
            | (go_at_call 11; (with_reducible refine Calls.mono (CL.out _) ?_); rintro e w7 ⟨rfl, rfl⟩)
            | (go_at_call 11; (with_reducible refine Calls.mono (CI.out _) ?_); rintro e w7 ⟨rfl, rfl⟩)
            | (go_at_call 11; (with_reducible refine Calls.mono (CJ.out _) ?_); rintro e w7 ⟨rfl, rfl⟩))
          go_roundw
          case rel => exact ⟨x + 1, by omega, by go_num, HLy.out, HSy.out, HRy.out, HBy.out⟩
          case measure => simp [intOf]; omega
        · have qv : (v == 1) = false := by simpa using hv1
          clear HHN CH CX
          go_wp2
          go_roundw
          case rel => exact ⟨x + 1, by omega, by go_num, HLy.out, HSy.out, HRy.out, HBy.out⟩
          case measure => simp [intOf]; omega
      | true =>
        rw [hbx, if_pos rfl] at s1
        rw [hbx] at CH
        cases hax : aw.testBit x with
        | false =>
          rw [hax] at CX
          rw [hax, if_neg (by decide)] at s1
          clear hbx
          go_wp2
          refine wp_region_seq [(0, true), (1, true), (2, true), (3, false), (4, true), (5, true), (6, true), (8, true), (9, true), (10, true), (11, true), (12, true), (13, true), (7, false), (14, true), (15, true), (16, true), (17, true), (18, true), (19, true), (20, false), (21, true), (22, true), (23, true), (24, true), (25, true), (26, true), (27, true), (28, true), (29, true), (30, true)] (fun w' => w'.cell? ⟨g1, x * 2 + 1, none⟩ = some (.int .i64 3)) (by kernel_rfl) (by kernel_rfl) s1 (fun hHeld => ?_)
          clear s1
          simp only [List.map_cons, List.map_nil, List.getElem?_toArray, List.getElem?_cons_zero, List.getElem?_cons_succ]
          repeat (first
            | (first | (refine seq_skip (by rfl) ?_; try simp only [Act.put, List.setIfInBounds_toArray, List.set_cons_zero, List.set_cons_succ]) | (refine seq_not (by rfl) (by assumption) ?_; try simp only [Act.put, List.setIfInBounds_toArray, List.set_cons_zero, List.set_cons_succ]) | (refine seq_take (v := ?_) (by rfl) ?_ ?_; rotate_left; (focus ((intro w hSw; (try dsimp only at hSw); go_simp; (try with_reducible rfl)); done)); try simp only [Act.put, List.setIfInBounds_toArray, List.set_cons_zero, List.set_cons_succ]))
            | (refine seq_do (fun K hK => ?_); go_simp; (first | (go_at_call 12; (with_reducible refine Calls.mono (CH.out _ HLx.out.drew_) ?_)) | (go_at_call 11; (with_reducible refine Calls.mono (CX.out _) ?_))); rintro e w7 ⟨rfl, rfl⟩; dsimp only; refine hK.out _ _ hHeld (fun _ => ?_); clear hK K))
          refine seq_done ?_
          clear hHeld
          have hb0 : Below wr.heap.size wr (wr.alloc (.cells #[.int .i64 u, .int .i64 v] 35)).drew := ((Below.refl _ _).alloc (Nat.le_refl _) _).drew
          have HLy := Lib.hid (HLx.out.below hb0)
          have HSy := Lib.hid ((show Es wr g1 e1 from HSx.out).keeps hb0)
          have HRy := Lib.hid ((show Es wr g2 e2 from HRx.out).keeps hb0)
          have HBy := Lib.hid (HBx.out.trans (hb0.mono HBx.out.size))
          have z0 := (Blk.new wr 35 #[.int .i64 u, .int .i64 v]).drew.cell 0
          have z1' := (Blk.new wr 35 #[.int .i64 u, .int .i64 v]).drew.cell 1
          clear hb0 HLx HSx HRx HBx
          by_cases hv1 : v = 1
          · obtain ⟨t1, t2, k, t3, t4⟩ := HHN.out hv1
            subst t3 hv1
            rw [Nat.testBit_and, Bool.and_eq_true] at t4
            have hkn := (HSY.out.lt (i := x) (k := k) t4.1).2
            have CK := Lib.hid (has_nat p g a x k (by omega) hkn _ HLy.out)
            rw [show B a x k = true from t4.1] at CK
            have CL := Lib.hid (fun w' => in_ok sd k w')
            rw [inb_nat sd k (by omega), t4.2] at CL
            rw [t1] at CJ
            rw [t2] at CI
            clear t1 t2 t4 HHN CH CX
            go_wp2_with (first
              | (go_at_call 12; (with_reducible refine Calls.mono CK.out ?_); rintro e w7 ⟨rfl, rfl⟩)
              | (go_at_call 11; (with_reducible refine Calls.mono (CL.out _) ?_); rintro e w7 ⟨rfl, rfl⟩)
              | (go_at_call 11; (with_reducible refine Calls.mono (CI.out _) ?_); rintro e w7 ⟨rfl, rfl⟩)
              | (go_at_call 11; (with_reducible refine Calls.mono (CJ.out _) ?_); rintro e w7 ⟨rfl, rfl⟩))
            go_roundw
            case rel => exact ⟨x + 1, by omega, by go_num, HLy.out, HSy.out, HRy.out, HBy.out⟩
            case measure => simp [intOf]; omega
          · have qv : (v == 1) = false := by simpa using hv1
            clear HHN CH CX
            go_wp2
            go_roundw
            case rel => exact ⟨x + 1, by omega, by go_num, HLy.out, HSy.out, HRy.out, HBy.out⟩
            case measure => simp [intOf]; omega
        | true =>
          rw [hax] at CX
          rw [hax, if_pos rfl] at s1
          clear hbx
          go_wp2
          refine wp_region_seq [(0, true), (1, true), (2, true), (3, false), (4, true), (5, true), (6, true), (8, true), (9, true), (10, true), (11, true), (12, true), (13, true), (7, false), (14, true), (15, true), (16, true), (17, true), (18, true), (19, true), (20, false), (21, true), (22, true), (23, true), (24, true), (25, true), (26, true), (27, true), (28, true), (29, true), (30, true)] (fun w' => w'.cell? ⟨g1, x * 2 + 1, none⟩ = some (.int .i64 1)) (by kernel_rfl) (by kernel_rfl) s1 (fun hHeld => ?_)
          clear s1
          simp only [List.map_cons, List.map_nil, List.getElem?_toArray, List.getElem?_cons_zero, List.getElem?_cons_succ]
          repeat (first
            | (first | (refine seq_skip (by rfl) ?_; try simp only [Act.put, List.setIfInBounds_toArray, List.set_cons_zero, List.set_cons_succ]) | (refine seq_not (by rfl) (by assumption) ?_; try simp only [Act.put, List.setIfInBounds_toArray, List.set_cons_zero, List.set_cons_succ]) | (refine seq_take (v := ?_) (by rfl) ?_ ?_; rotate_left; (focus ((intro w hSw; (try dsimp only at hSw); go_simp; (try with_reducible rfl)); done)); try simp only [Act.put, List.setIfInBounds_toArray, List.set_cons_zero, List.set_cons_succ]))
            | (refine seq_do (fun K hK => ?_); go_simp; (first | (go_at_call 12; (with_reducible refine Calls.mono (CH.out _ HLx.out.drew_) ?_)) | (go_at_call 11; (with_reducible refine Calls.mono (CX.out _) ?_))); rintro e w7 ⟨rfl, rfl⟩; dsimp only; refine hK.out _ _ hHeld (fun _ => ?_); clear hK K))
          refine seq_done ?_
          clear hHeld
          have hb0 : Below wr.heap.size wr (wr.alloc (.cells #[.int .i64 u, .int .i64 v] 35)).drew := ((Below.refl _ _).alloc (Nat.le_refl _) _).drew
          have HLy := Lib.hid (HLx.out.below hb0)
          have HSy := Lib.hid ((show Es wr g1 e1 from HSx.out).keeps hb0)
          have HRy := Lib.hid ((show Es wr g2 e2 from HRx.out).keeps hb0)
          have HBy := Lib.hid (HBx.out.trans (hb0.mono HBx.out.size))
          have z0 := (Blk.new wr 35 #[.int .i64 u, .int .i64 v]).drew.cell 0
          have z1' := (Blk.new wr 35 #[.int .i64 u, .int .i64 v]).drew.cell 1
          clear hb0 HLx HSx HRx HBx
          by_cases hv1 : v = 1
          · obtain ⟨t1, t2, k, t3, t4⟩ := HHN.out hv1
            subst t3 hv1
            rw [Nat.testBit_and, Bool.and_eq_true] at t4
            have hkn := (HSY.out.lt (i := x) (k := k) t4.1).2
            have CK := Lib.hid (has_nat p g a x k (by omega) hkn _ HLy.out)
            rw [show B a x k = true from t4.1] at CK
            have CL := Lib.hid (fun w' => in_ok sd k w')
            rw [inb_nat sd k (by omega), t4.2] at CL
            rw [t1] at CJ
            rw [t2] at CI
            clear t1 t2 t4 HHN CH CX
            go_wp2_with (first
              | (go_at_call 12; (with_reducible refine Calls.mono CK.out ?_); rintro e w7 ⟨rfl, rfl⟩)
              | (go_at_call 11; (with_reducible refine Calls.mono (CL.out _) ?_); rintro e w7 ⟨rfl, rfl⟩)
              | (go_at_call 11; (with_reducible refine Calls.mono (CI.out _) ?_); rintro e w7 ⟨rfl, rfl⟩)
              | (go_at_call 11; (with_reducible refine Calls.mono (CJ.out _) ?_); rintro e w7 ⟨rfl, rfl⟩))
            go_roundw
            case rel => exact ⟨x + 1, by omega, by go_num, HLy.out, HSy.out, HRy.out, HBy.out⟩
            case measure => simp [intOf]; omega
          · have qv : (v == 1) = false := by simpa using hv1
            clear HHN CH CX
            go_wp2
            go_roundw
            case rel => exact ⟨x + 1, by omega, by go_num, HLy.out, HSy.out, HRy.out, HBy.out⟩
            case measure => simp [intOf]; omega
    · have HBz := Lib.hid hB
      clear hL hS hR hB HL3 HS3 HR3 HB3
      go_wp2
      go_ret
      exact ⟨rfl, HBz.out⟩
end Go.Proofs.YtofflnklbdhaiaaDoor.EtherOneW
