/- What is refused might as well not have been said: a node that never heard it goes on in the same way. No condition. -/
import Derived.Test.YthnnejflgbminaaRf3
import Derived.Test.YthnnejflgbminaaLf
import Derived.Deep.CutBlock
import Derived.Deep.DeepCutAuto
namespace Go.Proofs.Ythnnejflgbminaa.ElectDeafW
open Go.RowKit Go.Proofs.Ythnnejflgbminaa.Bk Go.Proofs.Ythnnejflgbminaa.Rw Go.Proofs.Ythnnejflgbminaa.Ow Go.Proofs.Ythnnejflgbminaa.Kp Go.Proofs.Ythnnejflgbminaa.Sq Go.Proofs.Ythnnejflgbminaa.Ck Go.Proofs.Ythnnejflgbminaa.Ck2 Go.Proofs.Ythnnejflgbminaa.Mp Go.Proofs.Ythnnejflgbminaa.El

theorem elem2 {w : World} {A : Option Addr} {len : Nat} {vs : List (List Value)} (h : Lf.RowsAt w [.i .i64, .i .i64, .i .u16, .i .u16] A len vs) {k : Nat} (hk : k < len) :
    ∃ (ad : Addr) (x0 : Int) (x1 : Int) (x2 : Int) (x3 : Int), A = some ad ∧ vs[k]? = some [.int .i64 x0, .int .i64 x1, .int .u16 x2, .int .u16 x3] ∧ w.cell? (ad.add (k * 4)) = some (.int .i64 x0) ∧ w.cell? ⟨(ad.add (k * 4)).block, (ad.add (k * 4)).off + 1, none⟩ = some (.int .i64 x1) ∧ w.cell? ⟨(ad.add (k * 4)).block, (ad.add (k * 4)).off + 2, none⟩ = some (.int .u16 x2) ∧ w.cell? ⟨(ad.add (k * 4)).block, (ad.add (k * 4)).off + 3, none⟩ = some (.int .u16 x3) ∧ (Lit.int .i64 x0).wf = true ∧ (Lit.int .i64 x1).wf = true ∧ (Lit.int .u16 x2).wf = true ∧ (Lit.int .u16 x3).wf = true := by
  obtain ⟨ad, c, rfl, hv, hL, hc0, hcj⟩ := h.elem hk
  obtain ⟨u0, g0, q0, ⟨x0, e0, f0⟩, L0⟩ := hL.cons
  obtain ⟨u1, g1, q1, ⟨x1, e1, f1⟩, L1⟩ := L0.cons
  obtain ⟨u2, g2, q2, ⟨x2, e2, f2⟩, L2⟩ := L1.cons
  obtain ⟨u3, g3, q3, ⟨x3, e3, f3⟩, L3⟩ := L2.cons
  have n_ := L3.nil
  have hcc : c = [.int .i64 x0, .int .i64 x1, .int .u16 x2, .int .u16 x3] := by rw [q0, e0, q1, e1, q2, e2, q3, e3, n_]
  rw [hcc] at hv hc0 hcj
  exact ⟨ad, x0, x1, x2, x3, rfl, hv, hc0 _ rfl, hcj 0 _ rfl, hcj 1 _ rfl, hcj 2 _ rfl, f0, f1, f2, f3⟩

set_option maxRecDepth 100000 in
theorem early (a0 a1_0 a1_1 : Int) (a2 : Option Addr) (len2 cap2 : Nat) (W : World) (h : (a0 < 0 ∨ 63 < a0) ∨ gd a1_0 a1_1 = false) (hl : ¬ (300 : Int) < len2) :
    Calls Try.prog 7 #[.int .i64 a0, .agg #[.int .i64 a1_0, .int .i64 a1_1], .slice a2 len2 cap2] W fun e w' => e = .returned (.bool true) ∧ Below W.heap.size W w' := by
  have N0 := Lib.hid (fun w => new_no a0 a1_0 a1_1 w h)
  have HX0 := Lib.hid (Blk.new W 23 #[.int .i64 a1_0, .int .i64 a1_1])
  have HB0 := Lib.hid ((Below.refl _ W).alloc (Nat.le_refl _) (.cells #[.int .i64 a1_0, .int .i64 a1_1] 23))
  clear h
  go_enter Try.func7, Try.ntmps7
  go_wp2_with fail
  refine (alive_ok _).mono ?_
  rintro e w1 ⟨rfl, hb⟩
  have HX1 := Lib.hid (HX0.out.keeps hb)
  have HB1 := Lib.hid (HB0.out.trans (hb.mono HB0.out.size))
  have hx := cells2 HX1.out
  obtain ⟨x0, x1, _, _⟩ := hx
  clear hb HX0 HB0
  go_wp2_with fail
  refine (N0.out _).mono ?_
  rintro e w2 ⟨rfl, hb⟩
  have HX2 := Lib.hid (HX1.out.keeps hb)
  have HB2 := Lib.hid (HB1.out.trans (hb.mono HB1.out.size))
  clear hb x0 x1
  have hx := cells2 HX2.out
  obtain ⟨x0, x1, _, _⟩ := hx
  go_wp2_with fail
  refine (N0.out _).mono ?_
  rintro e w3 ⟨rfl, hb⟩
  have HB3 := Lib.hid (HB2.out.trans (hb.mono HB2.out.size))
  clear hb x0 x1
  go_wp2
  go_ret
  exact ⟨rfl, HB3.out⟩

set_option maxRecDepth 100000 in
set_option maxHeartbeats 8000000 in
set_option linter.unusedVariables false in
theorem walk (a0 : Int) (a1_0 : Int) (a1_1 : Int) (a2 : Option Addr) (len2 cap2 : Nat) (z2 : List (List Value)) (W : World) (w0 : (Lit.int .i64 a0).wf = true) (w1_0 : (Lit.int .i64 a1_0).wf = true) (w1_1 : (Lit.int .i64 a1_1).wf = true) (l2 : len2 ≤ cap2) (m2 : cap2 ≤ maxLen) (w2 : Lf.RowsAt W [.i .i64, .i .i64, .i .u16, .i .u16] a2 len2 z2) :
    Calls Try.prog 7 #[.int .i64 a0, .agg #[.int .i64 a1_0, .int .i64 a1_1], .slice a2 len2 cap2] W fun e w' => e = .returned (.bool true) ∧ Below W.heap.size W w' := by
  have hl8 : len2 ≤ 9223372036854775807 := by unfold maxLen at m2; omega
  have R := Lib.hid w2
  clear w0 w1_0 w1_1 w2 m2
  by_cases c3 : (300 : Int) < len2
  · have HB0 := Lib.hid ((Below.refl _ W).alloc (Nat.le_refl _) (.cells #[.int .i64 a1_0, .int .i64 a1_1] 23))
    go_enter Try.func7, Try.ntmps7
    go_wp2_with (go_at_call 8; refine (alive_ok _).mono ?_; rintro e w1 ⟨rfl, hb⟩; have HB1 := Lib.hid (HB0.out.trans (hb.mono HB0.out.size)); clear hb)
    go_ret
    exact ⟨rfl, HB1.out⟩
  by_cases hr : (a0 < 0 ∨ 63 < a0) ∨ gd a1_0 a1_1 = false
  · exact early a0 a1_0 a1_1 a2 len2 cap2 W hr c3
  have RU := Lib.hid (RuOk.of hr)
  clear hr
  have HX0 := Lib.hid (Blk.new W 23 #[.int .i64 a1_0, .int .i64 a1_1])
  have HB0 := Lib.hid ((Below.refl _ W).alloc (Nat.le_refl _) (.cells #[.int .i64 a1_0, .int .i64 a1_1] 23))
  go_enter Try.func7, Try.ntmps7
  go_wp2_with fail
  refine (alive_ok _).mono ?_
  rintro e w1 ⟨rfl, hb⟩
  have HX1 := Lib.hid (HX0.out.keeps hb)
  have HB1 := Lib.hid (HB0.out.trans (hb.mono HB0.out.size))
  have hx := cells2 HX1.out
  obtain ⟨x0, x1, _, _⟩ := hx
  clear hb HX0 HB0
  go_wp2_with fail
  refine (ob_new _ RU.out).mono ?_
  rintro e w2 ⟨p, bm, rfl, ho, hp, hbm, hb⟩
  have HO0 := Lib.hid ho
  have HX2 := Lib.hid (HX1.out.keeps hb)
  have HB2 := Lib.hid (HB1.out.trans (hb.mono HB1.out.size))
  have hxl := HX1.out.lt
  clear ho hb x0 x1 HX1 HB1
  have hx := cells2 HX2.out
  obtain ⟨x0, x1, _, _⟩ := hx
  go_wp2_with fail
  refine (ob_new _ RU.out).mono ?_
  rintro e w3 ⟨q, cm, rfl, ho, hq, hcm, hb⟩
  have hpl := HO0.out.nd.lt
  have hbl := HO0.out.mp.lt
  have HP0 := Lib.hid (HO0.out.below hb)
  have HQ0 := Lib.hid ho
  have HB3 := Lib.hid (HB2.out.trans (hb.mono HB2.out.size))
  have hpW : W.heap.size ≤ p := by omega
  have hqW : W.heap.size ≤ q := by omega
  have hbW : W.heap.size ≤ bm := by omega
  have hcW : W.heap.size ≤ cm := by omega
  have hpq : p ≠ q := by omega
  have hbc : bm ≠ cm := by omega
  clear ho hb x0 x1 HX2 HB2 HO0 hpl hbl hxl hp hbm hq hcm
  go_wp2_with fail
  go_loopw [53] (fun i wr => ∃ (k bm cm n m : Nat) (s : St) (f : Int → Option (Int × Int)), k ≤ len2 ∧ n ≤ k ∧ m ≤ k ∧ i = .int .i64 k ∧ W.heap.size ≤ bm ∧ W.heap.size ≤ cm ∧ bm ≠ cm ∧ StOk a0 a1_0 a1_1 s ∧ Ob wr p bm n a0 a1_0 a1_1 s f ∧ Ob wr q cm m a0 a1_0 a1_1 s f ∧ Below W.heap.size W wr) (fun i _ => len2 - (intOf i).toNat)
  case atStart => exact ⟨0, bm, cm, 0, 0, st0 0, _, Nat.zero_le _, Nat.le_refl _, Nat.le_refl _, rfl, hbW, hcW, hbc, StOk.st0 RU.out 0, HP0.out, HQ0.out, HB3.out⟩
  case round =>
    clear HP0 HQ0 HB3 hbW hcW hbc
    obtain ⟨k, bm, cm, n, m, s, f, hk, hnk, hmk, rfl, hbm, hcm, hbc, hs, ho, ho2, hb⟩ := hrel
    have HS := Lib.hid hs
    have HP := Lib.hid ho
    have HQ := Lib.hid ho2
    have HB := Lib.hid hb
    have hbq : bm ≠ q := ho.mp.blk_ne ho2.nd
    have hcp : cm ≠ p := ho2.mp.blk_ne ho.nd
    clear hs ho ho2 hb
    by_cases hlt : k < len2
    · obtain ⟨ad, x0, x1, x2, x3, rfl, _, e0, e1, e2, e3, wx0, wx1, wx2, wx3⟩ := elem2 (R.out.below HB.out) hlt
      have hx1 := bounds_i64 wx1
      have HW := Lib.hid (show -9223372036854775808 ≤ x1 ∧ x1 ≤ 9223372036854775807 by omega)
      clear wx0 wx1 wx2 wx3 hx1
      have HP2 := Lib.hid (HP.out.alloc (.cells #[.int .i64 x0, .int .i64 x1, .int .u16 x2, .int .u16 x3] 36))
      have HQ2 := Lib.hid (HQ.out.alloc (.cells #[.int .i64 x0, .int .i64 x1, .int .u16 x2, .int .u16 x3] 36))
      have HX2 := Lib.hid (Blk.new wr 36 #[.int .i64 x0, .int .i64 x1, .int .u16 x2, .int .u16 x3])
      have HB2 := Lib.hid (HB.out.alloc HB.out.size (.cells #[.int .i64 x0, .int .i64 x1, .int .u16 x2, .int .u16 x3] 36))
      have hbx := HB.out.size
      have hop := HP.out.nd.lt
      have hom := HP.out.mp.lt
      have hoq := HQ.out.nd.lt
      have hoc := HQ.out.mp.lt
      have HN := Lib.hid (show n < maxLen by unfold maxLen; omega)
      have HM := Lib.hid (show m < maxLen by unfold maxLen; omega)
      clear HP HQ HB
      go_upto_block 2 with fail
      clear e0 e1 e2 e3
      generalize wr.alloc (.cells #[.int .i64 x0, .int .i64 x1, .int .u16 x2, .int .u16 x3] 36) = w2 at HP2 HQ2 HX2 HB2 ⊢
      generalize wr.heap.size = bx at HX2 hbx hop hom hoq hoc ⊢
      have b1 := HX2.out.cell 1
      have b2 := HX2.out.cell 2
      have b3 := HX2.out.cell 3
      go_cut [] (fun wx => ∃ (bm cm n m : Nat) (s : St) (f : Int → Option (Int × Int)), n ≤ k + 1 ∧ m ≤ k + 1 ∧ W.heap.size ≤ bm ∧ W.heap.size ≤ cm ∧ bm ≠ cm ∧ StOk a0 a1_0 a1_1 s ∧ Ob wx p bm n a0 a1_0 a1_1 s f ∧ Ob wx q cm m a0 a1_0 a1_1 s f ∧ Below W.heap.size W wx)
      case first =>
        by_cases k0 : x0 = 0
        · as_aux_lemma =>
          subst k0
          have ht : takes a0 s f x1 (x2, x3) = true ∨ takes a0 s f x1 (x2, x3) = false := by cases takes a0 s f x1 (x2, x3) <;> simp
          rcases ht with ht | ht
          · have hst := HS.out.hear (f := f) (r := x1) (m := (x2, x3)) RU.out
            obtain ⟨v, s2, he, hv, hr⟩ := hear_yes ht
            have HE := Lib.hid he
            have HS2 := Lib.hid (show StOk a0 a1_0 a1_1 s2 by rw [he] at hst; exact hst)
            have v1 : (v == 0) = false := by rcases hv with rfl | rfl <;> rfl
            have v2 : (v != 0) = true := by rcases hv with rfl | rfl <;> rfl
            clear ht he hst hr hv
            go_wp2_with fail
            refine (ob_hear_is HP2.out HN.out HW.out HE.out).mono ?_
            rintro e w5 ⟨rfl, ho, hk⟩
            have HP5 := Lib.hid ho
            have HQ5 := Lib.hid (HQ2.out.kp hk (by omega) (by omega))
            have HX5 := Lib.hid (blk_kp HX2.out hk (by omega))
            have HB5 := Lib.hid (below_kp HB2.out HB2.out.size hk (fun k hk => by omega))
            clear ho hk HP2 HQ2 HX2 HB2 b1 b2 b3
            have b1 := HX5.out.cell 1
            have b2 := HX5.out.cell 2
            have b3 := HX5.out.cell 3
            go_wp2_with fail
            refine (ob_hear_is HQ5.out HM.out HW.out HE.out).mono ?_
            rintro e w6 ⟨rfl, ho, hk⟩
            have HQ6 := Lib.hid ho
            have HP6 := Lib.hid (HP5.out.kp hk (by omega) (by omega))
            have HB6 := Lib.hid (below_kp HB5.out HB5.out.size hk (fun k hk => by omega))
            clear ho hk b1 b2 b3
            go_wp2
            go_meet
            exact ⟨bm, cm, n + 1, m + 1, s2, _, by omega, by omega, hbm, hcm, hbc, HS2.out, HP6.out, HQ6.out, HB6.out⟩
          · have HE := Lib.hid (hear_not ht)
            clear ht
            go_wp2_with fail
            refine (ob_hear_is HP2.out HN.out HW.out HE.out).mono ?_
            rintro e w5 ⟨rfl, ho, hk⟩
            have HP5 := Lib.hid ho
            have HQ5 := Lib.hid (HQ2.out.kp hk (by omega) (by omega))
            have HB5 := Lib.hid (below_kp HB2.out HB2.out.size hk (fun k hk => by omega))
            clear ho hk HP2 HQ2 HX2 HB2 b1 b2 b3
            go_wp2
            go_meet
            exact ⟨bm, cm, n + 1, m, s, f, by omega, by omega, hbm, hcm, hbc, HS.out, HP5.out, HQ5.out, HB5.out⟩
        by_cases k1 : x0 = 1
        · as_aux_lemma =>
          subst k1
          have ht : takes a0 s f x1 (x2, x3) = true ∨ takes a0 s f x1 (x2, x3) = false := by cases takes a0 s f x1 (x2, x3) <;> simp
          rcases ht with ht | ht
          · have hst := HS.out.hear (f := f) (r := x1) (m := (x2, x3)) RU.out
            obtain ⟨v, s2, he, hv, hr⟩ := hear_yes ht
            have HE := Lib.hid he
            have HS2 := Lib.hid (show StOk a0 a1_0 a1_1 s2 by rw [he] at hst; exact hst)
            have v1 : (v == 0) = false := by rcases hv with rfl | rfl <;> rfl
            have v2 : (v != 0) = true := by rcases hv with rfl | rfl <;> rfl
            clear ht he hst hr hv
            go_wp2_with fail
            refine (ob_hear_is HP2.out HN.out HW.out HE.out).mono ?_
            rintro e w5 ⟨rfl, ho, hk⟩
            have HP5 := Lib.hid ho
            have HQ5 := Lib.hid (HQ2.out.kp hk (by omega) (by omega))
            have HX5 := Lib.hid (blk_kp HX2.out hk (by omega))
            have HB5 := Lib.hid (below_kp HB2.out HB2.out.size hk (fun k hk => by omega))
            clear ho hk HP2 HQ2 HX2 HB2 b1 b2 b3
            have b1 := HX5.out.cell 1
            have b2 := HX5.out.cell 2
            have b3 := HX5.out.cell 3
            go_wp2_with fail
            refine (ob_hear_is HQ5.out HM.out HW.out HE.out).mono ?_
            rintro e w6 ⟨rfl, ho, hk⟩
            have HQ6 := Lib.hid ho
            have HP6 := Lib.hid (HP5.out.kp hk (by omega) (by omega))
            have HB6 := Lib.hid (below_kp HB5.out HB5.out.size hk (fun k hk => by omega))
            clear ho hk b1 b2 b3
            go_wp2
            go_meet
            exact ⟨bm, cm, n + 1, m + 1, s2, _, by omega, by omega, hbm, hcm, hbc, HS2.out, HP6.out, HQ6.out, HB6.out⟩
          · have HE := Lib.hid (hear_not ht)
            clear ht
            go_wp2_with fail
            refine (ob_hear_is HP2.out HN.out HW.out HE.out).mono ?_
            rintro e w5 ⟨rfl, ho, hk⟩
            have HP5 := Lib.hid ho
            have HQ5 := Lib.hid (HQ2.out.kp hk (by omega) (by omega))
            have HB5 := Lib.hid (below_kp HB2.out HB2.out.size hk (fun k hk => by omega))
            clear ho hk HP2 HQ2 HX2 HB2 b1 b2 b3
            go_wp2
            go_meet
            exact ⟨bm, cm, n + 1, m, s, f, by omega, by omega, hbm, hcm, hbc, HS.out, HP5.out, HQ5.out, HB5.out⟩
        by_cases k2 : x0 = 2
        · as_aux_lemma =>
          subst k2
          have ht : takes a0 s f x1 (x2, x3) = true ∨ takes a0 s f x1 (x2, x3) = false := by cases takes a0 s f x1 (x2, x3) <;> simp
          rcases ht with ht | ht
          · have hst := HS.out.hear (f := f) (r := x1) (m := (x2, x3)) RU.out
            obtain ⟨v, s2, he, hv, hr⟩ := hear_yes ht
            have HE := Lib.hid he
            have HS2 := Lib.hid (show StOk a0 a1_0 a1_1 s2 by rw [he] at hst; exact hst)
            have v1 : (v == 0) = false := by rcases hv with rfl | rfl <;> rfl
            have v2 : (v != 0) = true := by rcases hv with rfl | rfl <;> rfl
            clear ht he hst hr hv
            go_wp2_with fail
            refine (ob_hear_is HP2.out HN.out HW.out HE.out).mono ?_
            rintro e w5 ⟨rfl, ho, hk⟩
            have HP5 := Lib.hid ho
            have HQ5 := Lib.hid (HQ2.out.kp hk (by omega) (by omega))
            have HX5 := Lib.hid (blk_kp HX2.out hk (by omega))
            have HB5 := Lib.hid (below_kp HB2.out HB2.out.size hk (fun k hk => by omega))
            clear ho hk HP2 HQ2 HX2 HB2 b1 b2 b3
            have b1 := HX5.out.cell 1
            have b2 := HX5.out.cell 2
            have b3 := HX5.out.cell 3
            go_wp2_with fail
            refine (ob_hear_is HQ5.out HM.out HW.out HE.out).mono ?_
            rintro e w6 ⟨rfl, ho, hk⟩
            have HQ6 := Lib.hid ho
            have HP6 := Lib.hid (HP5.out.kp hk (by omega) (by omega))
            have HB6 := Lib.hid (below_kp HB5.out HB5.out.size hk (fun k hk => by omega))
            clear ho hk b1 b2 b3
            go_wp2
            go_meet
            exact ⟨bm, cm, n + 1, m + 1, s2, _, by omega, by omega, hbm, hcm, hbc, HS2.out, HP6.out, HQ6.out, HB6.out⟩
          · have HE := Lib.hid (hear_not ht)
            clear ht
            go_wp2_with fail
            refine (ob_hear_is HP2.out HN.out HW.out HE.out).mono ?_
            rintro e w5 ⟨rfl, ho, hk⟩
            have HP5 := Lib.hid ho
            have HQ5 := Lib.hid (HQ2.out.kp hk (by omega) (by omega))
            have HB5 := Lib.hid (below_kp HB2.out HB2.out.size hk (fun k hk => by omega))
            clear ho hk HP2 HQ2 HX2 HB2 b1 b2 b3
            go_wp2
            go_meet
            exact ⟨bm, cm, n + 1, m, s, f, by omega, by omega, hbm, hcm, hbc, HS.out, HP5.out, HQ5.out, HB5.out⟩
        by_cases k3 : x0 = 3
        · as_aux_lemma =>
          subst k3
          obtain ⟨v, s2, he⟩ : ∃ v s2, beat a0 a1_0 a1_1 s = (v, s2) := ⟨_, _, rfl⟩
          have hst := HS.out.beat RU.out
          have HE := Lib.hid he
          have HS2 := Lib.hid (show StOk a0 a1_0 a1_1 s2 by rw [he] at hst; exact hst)
          clear he hst
          go_wp2_with fail
          refine (ob_beat_is HP2.out RU.out HS.out HE.out).mono ?_
          rintro e w5 ⟨rfl, ho, hk⟩
          have HP5 := Lib.hid ho
          have HQ5 := Lib.hid (HQ2.out.kp hk (by omega) (by omega))
          have HB5 := Lib.hid (below_kp HB2.out HB2.out.size hk (fun k hk => by omega))
          clear ho hk HP2 HQ2 HX2 HB2 b1 b2 b3
          go_wp2_with fail
          refine (ob_beat_is HQ5.out RU.out HS.out HE.out).mono ?_
          rintro e w6 ⟨rfl, ho, hk⟩
          have HQ6 := Lib.hid ho
          have HP6 := Lib.hid (HP5.out.kp hk (by omega) (by omega))
          have HB6 := Lib.hid (below_kp HB5.out HB5.out.size hk (fun k hk => by omega))
          clear ho hk
          go_wp2
          go_meet
          exact ⟨bm, cm, n, m, s2, f, by omega, by omega, hbm, hcm, hbc, HS2.out, HP6.out, HQ6.out, HB6.out⟩
        by_cases k4 : x0 = 4
        · as_aux_lemma =>
          subst k4
          obtain ⟨v, s2, he⟩ : ∃ v s2, beat a0 a1_0 a1_1 s = (v, s2) := ⟨_, _, rfl⟩
          have hst := HS.out.beat RU.out
          have HE := Lib.hid he
          have HS2 := Lib.hid (show StOk a0 a1_0 a1_1 s2 by rw [he] at hst; exact hst)
          clear he hst
          go_wp2_with fail
          refine (ob_beat_is HP2.out RU.out HS.out HE.out).mono ?_
          rintro e w5 ⟨rfl, ho, hk⟩
          have HP5 := Lib.hid ho
          have HQ5 := Lib.hid (HQ2.out.kp hk (by omega) (by omega))
          have HB5 := Lib.hid (below_kp HB2.out HB2.out.size hk (fun k hk => by omega))
          clear ho hk HP2 HQ2 HX2 HB2 b1 b2 b3
          go_wp2_with fail
          refine (ob_beat_is HQ5.out RU.out HS.out HE.out).mono ?_
          rintro e w6 ⟨rfl, ho, hk⟩
          have HQ6 := Lib.hid ho
          have HP6 := Lib.hid (HP5.out.kp hk (by omega) (by omega))
          have HB6 := Lib.hid (below_kp HB5.out HB5.out.size hk (fun k hk => by omega))
          clear ho hk
          go_wp2
          go_meet
          exact ⟨bm, cm, n, m, s2, f, by omega, by omega, hbm, hcm, hbc, HS2.out, HP6.out, HQ6.out, HB6.out⟩
        by_cases k5 : x0 = 5
        · as_aux_lemma =>
          subst k5
          obtain ⟨v0, v1, v, s2, he⟩ : ∃ v0 v1 v s2, issue a0 s = ((v0, v1), v, s2) := ⟨_, _, _, _, rfl⟩
          have HS2 := Lib.hid (show StOk a0 a1_0 a1_1 s2 by have := HS.out.issue; rw [he] at this; exact this)
          have CI := Lib.hid (fun p bm n w (h : Ob w p bm n a0 a1_0 a1_1 s f) => show Calls Try.prog 16 #[.pointer (some ⟨p, 0, none⟩)] w fun e w' => e = .returned (.tuple #[.agg #[.int .u16 v0, .int .u16 v1], .bool v]) ∧ Ob w' p bm n a0 a1_0 a1_1 s2 f ∧ Kp (fun k => k = p ∨ k = bm) w w' from by have := ob_issue h; rw [he] at this; exact this)
          clear he
          go_wp2_with fail
          refine (CI.out p bm n _ HP2.out).mono ?_
          rintro e w5 ⟨rfl, ho, hk⟩
          have HP5 := Lib.hid (ho.alloc (.cells #[.int .u16 v0, .int .u16 v1] 32))
          have HQ5 := Lib.hid ((HQ2.out.kp hk (by omega) (by omega)).alloc (.cells #[.int .u16 v0, .int .u16 v1] 32))
          have HY5 := Lib.hid (Blk.new w5 32 #[.int .u16 v0, .int .u16 v1])
          have HB5 := Lib.hid ((below_kp HB2.out HB2.out.size hk (fun k hk => by omega)).alloc (Nat.le_trans HB2.out.size hk.size) (.cells #[.int .u16 v0, .int .u16 v1] 32))
          have hp5 := ho.nd.lt
          have hb5 := ho.mp.lt
          have hq5 := (HQ2.out.kp hk (by omega) (by omega)).nd.lt
          have hc5 := (HQ2.out.kp hk (by omega) (by omega)).mp.lt
          clear ho hk HP2 HQ2 HX2 HB2 b1 b2 b3
          go_wp2_with fail
          refine (CI.out q cm m _ HQ5.out).mono ?_
          rintro e w6 ⟨rfl, ho, hk⟩
          have HQ6 := Lib.hid (ho.alloc (.cells #[.int .u16 v0, .int .u16 v1] 32))
          have HP6 := Lib.hid ((HP5.out.kp hk (by omega) (by omega)).alloc (.cells #[.int .u16 v0, .int .u16 v1] 32))
          have HY6 := Lib.hid ((blk_kp HY5.out hk (by omega)).alloc (.cells #[.int .u16 v0, .int .u16 v1] 32))
          have HB6 := Lib.hid ((below_kp HB5.out HB5.out.size hk (fun k hk => by omega)).alloc (Nat.le_trans HB5.out.size hk.size) (.cells #[.int .u16 v0, .int .u16 v1] 32))
          have hx := cells2 HY6.out
          obtain ⟨y0, y1, _, _⟩ := hx
          clear ho hk HP5 HQ5 HY5 HB5
          go_wp2
          go_meet
          exact ⟨bm, cm, n, m, s2, f, by omega, by omega, hbm, hcm, hbc, HS2.out, HP6.out, HQ6.out, HB6.out⟩
        by_cases k6 : x0 = 6
        · as_aux_lemma =>
          subst k6
          go_wp2_with fail
          refine (ob_boot x2 HP2.out).mono ?_
          rintro e w5 ⟨rfl, bm2, ho, hbm2, hk⟩
          have HP5 := Lib.hid ho
          have HQ5 := Lib.hid (HQ2.out.kp hk (by omega) (by omega))
          have HX5 := Lib.hid (blk_kp HX2.out hk (by omega))
          have HB5 := Lib.hid (below_kp HB2.out HB2.out.size hk (fun k hk => by omega))
          have hs2 := HB2.out.size
          have hb5 := HP5.out.mp.lt
          clear ho hk HP2 HQ2 HX2 HB2 b1 b2 b3
          have b2 := HX5.out.cell 2
          go_wp2_with fail
          refine (ob_boot x2 HQ5.out).mono ?_
          rintro e w6 ⟨rfl, cm2, ho, hcm2, hk⟩
          have HQ6 := Lib.hid ho
          have hp5 := HP5.out.ne
          have hq5 : bm2 ≠ q := HP5.out.mp.blk_ne HQ5.out.nd
          have HP6 := Lib.hid (HP5.out.kp hk (by omega) (by omega))
          have HB6 := Lib.hid (below_kp HB5.out HB5.out.size hk (fun k hk => by omega))
          clear ho hk
          go_wp2
          go_meet
          exact ⟨bm2, cm2, 0, 0, _, _, by omega, by omega, by omega, by omega, by omega, StOk.st0 RU.out x2, HP6.out, HQ6.out, HB6.out⟩
        have k0b : (x0 == 0) = false := by simpa using k0
        have k1b : (x0 == 1) = false := by simpa using k1
        have k2b : (x0 == 2) = false := by simpa using k2
        have k3b : (x0 == 3) = false := by simpa using k3
        have k4b : (x0 == 4) = false := by simpa using k4
        have k5b : (x0 == 5) = false := by simpa using k5
        have k6b : (x0 == 6) = false := by simpa using k6
        clear k0 k1 k2 k3 k4 k5 k6
        go_wp2
        go_meet
        exact ⟨bm, cm, n, m, s, f, by omega, by omega, hbm, hcm, hbc, HS.out, HP2.out, HQ2.out, HB2.out⟩
      case rest =>
        clear HP2 HQ2 HX2 HB2 HN HM b1 b2 b3 hop hom hoq hoc hbx hnk hmk hbm hcm hbc hbq hcp HS
        obtain ⟨bm, cm, n, m, s, f, hnk, hmk, hbm, hcm, hbc, hs, ho, ho2, hb⟩ := hcut
        obtain ⟨v0, v1, v, he⟩ : ∃ v0 v1 v, El.mark a0 s f = ((v0, v1), v) := ⟨_, _, _, rfl⟩
        have CM := Lib.hid (fun p bm n w (h : Ob w p bm n a0 a1_0 a1_1 s f) => show Calls Try.prog 17 #[.pointer (some ⟨p, 0, none⟩)] w fun e w' => e = .returned (.tuple #[.agg #[.int .u16 v0, .int .u16 v1], .bool v]) ∧ Ob w' p bm n a0 a1_0 a1_1 s f ∧ Below w.heap.size w w' from by have := ob_mark h RU.out hs; rw [he] at this; exact this)
        have HS := Lib.hid hs
        have HP2 := Lib.hid ho
        have HQ2 := Lib.hid ho2
        have HB2 := Lib.hid hb
        clear he hs ho ho2 hb
        go_wp2_with fail
        refine (CM.out p bm n _ HP2.out).mono ?_
        rintro e w5 ⟨rfl, ho, hk⟩
        have HP5 := Lib.hid (ho.alloc (.cells #[.int .u16 v0, .int .u16 v1] 32))
        have HQ5 := Lib.hid ((HQ2.out.below hk).alloc (.cells #[.int .u16 v0, .int .u16 v1] 32))
        have HY5 := Lib.hid (Blk.new w5 32 #[.int .u16 v0, .int .u16 v1])
        have HB5 := Lib.hid ((HB2.out.trans (hk.mono HB2.out.size)).alloc (Nat.le_trans HB2.out.size hk.size) (.cells #[.int .u16 v0, .int .u16 v1] 32))
        clear ho hk HP2 HQ2 HB2
        go_wp2_with fail
        refine (CM.out q cm m _ HQ5.out).mono ?_
        rintro e w6 ⟨rfl, ho, hk⟩
        have HQ6 := Lib.hid (ho.alloc (.cells #[.int .u16 v0, .int .u16 v1] 32))
        have HP6 := Lib.hid ((HP5.out.below hk).alloc (.cells #[.int .u16 v0, .int .u16 v1] 32))
        have HY6 := Lib.hid ((HY5.out.keeps hk).alloc (.cells #[.int .u16 v0, .int .u16 v1] 32))
        have HZ6 := Lib.hid (Blk.new w6 32 #[.int .u16 v0, .int .u16 v1])
        have HB6 := Lib.hid ((HB5.out.trans (hk.mono HB5.out.size)).alloc (Nat.le_trans HB5.out.size hk.size) (.cells #[.int .u16 v0, .int .u16 v1] 32))
        clear ho hk HP5 HQ5 HY5 HB5
        have hx := cells2 HY6.out.drew.drew
        obtain ⟨y0, y1, _, _⟩ := hx
        have hx := cells2 HZ6.out.drew.drew
        obtain ⟨z0, z1, _, _⟩ := hx
        go_wp2_with (first
          | (go_at_call 15; (with_reducible refine Calls.mono (ob_root HP6.out) ?_); rintro e w7 ⟨rfl, rfl⟩)
          | (go_at_call 15; (with_reducible refine Calls.mono (ob_root HQ6.out) ?_); rintro e w7 ⟨rfl, rfl⟩)
          | (go_at_call 14; (with_reducible refine Calls.mono (ob_mine HP6.out) ?_); rintro e w7 ⟨rfl, rfl⟩)
          | (go_at_call 14; (with_reducible refine Calls.mono (ob_mine HQ6.out.drew) ?_); rintro e w7 ⟨rfl, rfl⟩))
        go_roundw
        case rel => exact ⟨k + 1, bm, cm, n, m, s, f, by omega, hnk, hmk, by go_num, hbm, hcm, hbc, HS.out, HP6.out.drew.drew, HQ6.out.drew.drew, below_drew (below_drew HB6.out)⟩
        case measure => simp [intOf]; omega
    · go_wp2
      go_ret
      exact ⟨rfl, HB.out⟩
end Go.Proofs.Ythnnejflgbminaa.ElectDeafW
