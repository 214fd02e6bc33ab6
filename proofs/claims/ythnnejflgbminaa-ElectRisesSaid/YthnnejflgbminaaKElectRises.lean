/- The root is never above the node itself, and goes up by Beat or Boot alone; by Beat to the node itself. No condition. -/
import Derived.Test.YthnnejflgbminaaEw
import Derived.Test.YthnnejflgbminaaLf
import Derived.Deep.CutBlock
import Derived.Deep.DeepCutAuto
namespace Go.Proofs.Ythnnejflgbminaa.ElectRisesW
open Go.RowKit Go.Proofs.Ythnnejflgbminaa.Bk Go.Proofs.Ythnnejflgbminaa.Rw Go.Proofs.Ythnnejflgbminaa.Ow Go.Proofs.Ythnnejflgbminaa.Kp Go.Proofs.Ythnnejflgbminaa.Sq Go.Proofs.Ythnnejflgbminaa.Ck Go.Proofs.Ythnnejflgbminaa.Ck2 Go.Proofs.Ythnnejflgbminaa.Mp Go.Proofs.Ythnnejflgbminaa.El

theorem elem2 {w : World} {A : Option Addr} {len : Nat} {vs : List (List Value)} (h : Lf.RowsAt w [.i .i64, .i .i64, .i .u16, .i .u16] A len vs) {k : Nat} (hk : k < len) :
    ∃ (ad : Addr) (x0 : Int) (x1 : Int) (x2 : Int) (x3 : Int), A = some ad ∧ vs[k]? = some [.int .i64 x0, .int .i64 x1, .int .u16 x2, .int .u16 x3] ∧ w.cell? (ad.add (k * 4)) = some (.int .i64 x0) ∧ w.cell? ⟨(ad.add (k * 4)).block, (ad.add (k * 4)).off + 1, none⟩ = some (.int .i64 x1) ∧ w.cell? ⟨(ad.add (k * 4)).block, (ad.add (k * 4)).off + 2, none⟩ = some (.int .u16 x2) ∧ w.cell? ⟨(ad.add (k * 4)).block, (ad.add (k * 4)).off + 3, none⟩ = some (.int .u16 x3) ∧ (Lit.int .i64 x0).wf = true ∧ (Lit.int .i64 x1).wf = true ∧ (Lit.int .u16 x2).wf = true ∧ (Lit.int .u16 x3).wf = true := by
  obtain ⟨ad, c, rfl, hv, hL, hc0, hcj⟩ := h.elem hk
  obtain ⟨u0, g0, q0, ⟨x0, e0, f0⟩, L0⟩ := hL.cons
  obtain ⟨u1, g1, q1, ⟨x1, e1, f1⟩, L1⟩ := L0.cons
  obtain ⟨u2, g2, q2, ⟨x2, e2, f2⟩, L2⟩ := L1.cons
  obtain ⟨u3, g3, q3, ⟨x3, e3, f3⟩, L3⟩ := L2.cons
  have n_ := L3.nil
  have hcc : c = [.int .i64 x0, .int .i64 x1, .int .u16 x2, .int .u16 x3] := by rw [q0, e0, q1, e1, q2, e2, q3, e3, n_]
  rw [hcc] at hv hc0 hcj
  exact ⟨ad, x0, x1, x2, x3, rfl, hv, hc0 _ rfl, hcj 0 _ rfl, hcj 1 _ rfl, hcj 2 _ rfl, f0, f1, f2, f3⟩

set_option maxRecDepth 100000 in
theorem early (a0 a1_0 a1_1 : Int) (a2 : Option Addr) (len2 cap2 : Nat) (W : World) (h : (a0 < 0 ∨ 63 < a0) ∨ gd a1_0 a1_1 = false) (hl : ¬ (300 : Int) < len2) :
    Calls Try.prog 5 #[.int .i64 a0, .agg #[.int .i64 a1_0, .int .i64 a1_1], .slice a2 len2 cap2] W fun e w' => e = .returned (.bool true) ∧ Below W.heap.size W w' := by
  have N0 := Lib.hid (fun w => new_no a0 a1_0 a1_1 w h)
  have HX0 := Lib.hid (Blk.new W 23 #[.int .i64 a1_0, .int .i64 a1_1])
  have HB0 := Lib.hid ((Below.refl _ W).alloc (Nat.le_refl _) (.cells #[.int .i64 a1_0, .int .i64 a1_1] 23))
  clear h
  go_enter Try.func5, Try.ntmps5
  go_wp2_with fail
  refine (alive_ok _).mono ?_
  rintro e w1 ⟨rfl, hb⟩
  have HX1 := Lib.hid (HX0.out.keeps hb)
  have HB1 := Lib.hid (HB0.out.trans (hb.mono HB0.out.size))
  have hx := cells2 HX1.out
  obtain ⟨x0, x1, _, _⟩ := hx
  clear hb HX0 HB0
  go_wp2_with fail
  refine (N0.out _).mono ?_
  rintro e w2 ⟨rfl, hb⟩
  have HB2 := Lib.hid (HB1.out.trans (hb.mono HB1.out.size))
  clear hb x0 x1
  go_wp2
  go_ret
  exact ⟨rfl, HB2.out⟩

set_option maxRecDepth 100000 in
set_option maxHeartbeats 4000000 in
set_option linter.unusedVariables false in
theorem walk (a0 : Int) (a1_0 : Int) (a1_1 : Int) (a2 : Option Addr) (len2 cap2 : Nat) (z2 : List (List Value)) (W : World) (w0 : (Lit.int .i64 a0).wf = true) (w1_0 : (Lit.int .i64 a1_0).wf = true) (w1_1 : (Lit.int .i64 a1_1).wf = true) (l2 : len2 ≤ cap2) (m2 : cap2 ≤ maxLen) (w2 : Lf.RowsAt W [.i .i64, .i .i64, .i .u16, .i .u16] a2 len2 z2) :
    Calls Try.prog 5 #[.int .i64 a0, .agg #[.int .i64 a1_0, .int .i64 a1_1], .slice a2 len2 cap2] W fun e w' => e = .returned (.bool true) ∧ Below W.heap.size W w' := by
  have hl8 : len2 ≤ 9223372036854775807 := by unfold maxLen at m2; omega
  have R := Lib.hid w2
  clear w0 w1_0 w1_1 w2 m2
  by_cases c3 : (300 : Int) < len2
  · have HB0 := Lib.hid ((Below.refl _ W).alloc (Nat.le_refl _) (.cells #[.int .i64 a1_0, .int .i64 a1_1] 23))
    go_enter Try.func5, Try.ntmps5
    go_wp2_with (go_at_call 8; refine (alive_ok _).mono ?_; rintro e w1 ⟨rfl, hb⟩; have HB1 := Lib.hid (HB0.out.trans (hb.mono HB0.out.size)); clear hb)
    go_ret
    exact ⟨rfl, HB1.out⟩
  by_cases hr : (a0 < 0 ∨ 63 < a0) ∨ gd a1_0 a1_1 = false
  · exact early a0 a1_0 a1_1 a2 len2 cap2 W hr c3
  have RU := Lib.hid (RuOk.of hr)
  clear hr
  have HX0 := Lib.hid (Blk.new W 23 #[.int .i64 a1_0, .int .i64 a1_1])
  have HB0 := Lib.hid ((Below.refl _ W).alloc (Nat.le_refl _) (.cells #[.int .i64 a1_0, .int .i64 a1_1] 23))
  go_enter Try.func5, Try.ntmps5
  go_wp2_with fail
  refine (alive_ok _).mono ?_
  rintro e w1 ⟨rfl, hb⟩
  have HX1 := Lib.hid (HX0.out.keeps hb)
  have HB1 := Lib.hid (HB0.out.trans (hb.mono HB0.out.size))
  have hx := cells2 HX1.out
  obtain ⟨x0, x1, _, _⟩ := hx
  clear hb HX0 HB0
  go_wp2_with fail
  refine (ob_new _ RU.out).mono ?_
  rintro e w2 ⟨p, bm, rfl, ho, hp, hbm, hb⟩
  have HO0 := Lib.hid ho
  have HB0 := Lib.hid (HB1.out.trans (hb.mono HB1.out.size))
  have hxl := HX1.out.lt
  clear ho hb x0 x1 HX1 HB1
  go_wp2_with fail
  go_loopw [31] (fun i wr => ∃ (k bm n : Nat) (s : St) (f : Int → Option (Int × Int)), k ≤ len2 ∧ n ≤ k ∧ i = .int .i64 k ∧ W.heap.size ≤ bm ∧ StOk a0 a1_0 a1_1 s ∧ Ob wr p bm n a0 a1_0 a1_1 s f ∧ Below W.heap.size W wr) (fun i _ => len2 - (intOf i).toNat)
  case atStart => exact ⟨0, bm, 0, st0 0, _, Nat.zero_le _, Nat.le_refl _, rfl, by omega, StOk.st0 RU.out 0, HO0.out, HB0.out⟩
  case round =>
    clear HO0 HB0
    obtain ⟨k, bm, n, s, f, hk, hnk, rfl, hbm, hs, ho, hb⟩ := hrel
    have HS := Lib.hid hs
    have HO := Lib.hid ho
    have HB := Lib.hid hb
    clear hs ho hb
    by_cases hlt : k < len2
    · obtain ⟨ad, x0, x1, x2, x3, rfl, _, e0, e1, e2, e3, wx0, wx1, wx2, wx3⟩ := elem2 (R.out.below HB.out) hlt
      have hx1 := bounds_i64 wx1
      have HW := Lib.hid (show -9223372036854775808 ≤ x1 ∧ x1 ≤ 9223372036854775807 by omega)
      clear wx0 wx1 wx2 wx3 hx1
      have HO2 := Lib.hid (HO.out.alloc (.cells #[.int .i64 x0, .int .i64 x1, .int .u16 x2, .int .u16 x3] 36))
      have HX2 := Lib.hid (Blk.new wr 36 #[.int .i64 x0, .int .i64 x1, .int .u16 x2, .int .u16 x3])
      have HB2 := Lib.hid (HB.out.alloc HB.out.size (.cells #[.int .i64 x0, .int .i64 x1, .int .u16 x2, .int .u16 x3] 36))
      have hbx := HB.out.size
      have hop := HO.out.nd.lt
      have hom := HO.out.mp.lt
      have HN := Lib.hid (show n < maxLen by unfold maxLen; omega)
      clear HO HB
      go_upto_block 2 with (go_at_call 15; (with_reducible refine Calls.mono (ob_root HO2.out) ?_); rintro e w4 ⟨rfl, rfl⟩)
      clear e0 e1 e2 e3
      generalize wr.alloc (.cells #[.int .i64 x0, .int .i64 x1, .int .u16 x2, .int .u16 x3] 36) = w2 at HO2 HX2 HB2 ⊢
      generalize wr.heap.size = bx at HX2 hbx hop hom ⊢
      have b1 := HX2.out.cell 1
      have b2 := HX2.out.cell 2
      have b3 := HX2.out.cell 3
      go_cut [] (fun wx => ∃ (bm n : Nat) (s : St) (f : Int → Option (Int × Int)), n ≤ k + 1 ∧ W.heap.size ≤ bm ∧ StOk a0 a1_0 a1_1 s ∧ Ob wx p bm n a0 a1_0 a1_1 s f ∧ Below W.heap.size W wx)
      case first =>
        by_cases k0 : x0 = 0
        · as_aux_lemma =>
          subst k0
          have ht : takes a0 s f x1 (x2, x3) = true ∨ takes a0 s f x1 (x2, x3) = false := by cases takes a0 s f x1 (x2, x3) <;> simp
          rcases ht with ht | ht
          · have hle := takes_le HS.out ht
            have hst := HS.out.hear (f := f) (r := x1) (m := (x2, x3)) RU.out
            obtain ⟨v, s2, he, hv, hr⟩ := hear_yes ht
            have HE := Lib.hid he
            have HR := Lib.hid hr
            have HS2 := Lib.hid (show StOk a0 a1_0 a1_1 s2 by rw [he] at hst; exact hst)
            have v1 : (v == 0) = false := by rcases hv with rfl | rfl <;> rfl
            have v2 : (v != 0) = true := by rcases hv with rfl | rfl <;> rfl
            clear ht he hst hr hv
            by_cases hw : s.root < 0
            · have q1 : decide (0 ≤ s.root) = false := by simp; omega
              have q2 : decide (s.root < 0) = true := by simpa using hw
              clear hle hw
              go_wp2_with fail
              refine (ob_hear_is HO2.out HN.out HW.out HE.out).mono ?_
              rintro e w5 ⟨rfl, ho, hk⟩
              have HO5 := Lib.hid ho
              have HX5 := Lib.hid (blk_kp HX2.out hk (by omega))
              have HB5 := Lib.hid (below_kp HB2.out HB2.out.size hk (fun k hk => by omega))
              clear ho hk HO2 HX2 HB2 b1 b2 b3
              go_wp2_with fail
              refine wp_region_seq [(0, true), (1, true), (2, true), (3, true), (5, true), (4, false), (6, true), (7, true), (8, true), (9, true), (10, true), (11, true), (12, true), (14, true), (13, false), (15, true), (16, true), (17, true), (18, true), (19, true), (20, true), (21, true), (22, true), (24, true), (25, true), (23, false), (26, true), (27, true), (28, true)] (fun w' => w'.cell? ⟨bx, 1, none⟩ = some (.int .i64 x1)) (by kernel_rfl) (by kernel_rfl) (HX5.out.drew.cell 1) (fun hHeld => ?_)
              simp only [List.map_cons, List.map_nil, List.getElem?_toArray, List.getElem?_cons_zero, List.getElem?_cons_succ]
              repeat (first | (first | (refine seq_skip (by rfl) ?_; try simp only [Act.put, List.setIfInBounds_toArray, List.set_cons_zero, List.set_cons_succ]) | (refine seq_not (by rfl) (by assumption) ?_; try simp only [Act.put, List.setIfInBounds_toArray, List.set_cons_zero, List.set_cons_succ]) | (refine seq_take (v := ?_) (by rfl) ?_ ?_; rotate_left; (focus ((intro w hSw; (try dsimp only at hSw); go_simp; (try with_reducible rfl)); done)); try simp only [Act.put, List.setIfInBounds_toArray, List.set_cons_zero, List.set_cons_succ])) | (refine seq_do (fun K hK => ?_); go_simp; go_at_call 15; (with_reducible refine Calls.mono (ob_root_is HO5.out.drew HR.out) ?_); rintro e w6 ⟨rfl, rfl⟩; dsimp only; refine hK.out _ _ (by assumption) (fun _ => ?_); clear hK K))
              refine seq_done ?_
              clear hHeld
              go_wp2
              go_meet
              exact ⟨bm, n + 1, s2, _, by omega, hbm, HS2.out, HO5.out.drew, below_drew HB5.out⟩
            · have q1 : decide (0 ≤ s.root) = true := by simp; omega
              have q2 : decide (s.root < 0) = false := by simpa using hw
              have q3 : decide (s.root < x1) = false := by have := hle (by omega); simp; omega
              have q4 : decide (x1 ≤ s.root) = true := by have := hle (by omega); simp; omega
              clear hle hw
              go_wp2_with fail
              refine (ob_hear_is HO2.out HN.out HW.out HE.out).mono ?_
              rintro e w5 ⟨rfl, ho, hk⟩
              have HO5 := Lib.hid ho
              have HX5 := Lib.hid (blk_kp HX2.out hk (by omega))
              have HB5 := Lib.hid (below_kp HB2.out HB2.out.size hk (fun k hk => by omega))
              clear ho hk HO2 HX2 HB2 b1 b2 b3
              go_wp2_with fail
              refine wp_region_seq [(0, true), (1, true), (2, true), (3, true), (5, true), (4, false), (6, true), (7, true), (8, true), (9, true), (10, true), (11, true), (12, true), (14, true), (13, false), (15, true), (16, true), (17, true), (18, true), (19, true), (20, true), (21, true), (22, true), (24, true), (25, true), (23, false), (26, true), (27, true), (28, true)] (fun w' => w'.cell? ⟨bx, 1, none⟩ = some (.int .i64 x1)) (by kernel_rfl) (by kernel_rfl) (HX5.out.drew.cell 1) (fun hHeld => ?_)
              simp only [List.map_cons, List.map_nil, List.getElem?_toArray, List.getElem?_cons_zero, List.getElem?_cons_succ]
              repeat (first | (first | (refine seq_skip (by rfl) ?_; try simp only [Act.put, List.setIfInBounds_toArray, List.set_cons_zero, List.set_cons_succ]) | (refine seq_not (by rfl) (by assumption) ?_; try simp only [Act.put, List.setIfInBounds_toArray, List.set_cons_zero, List.set_cons_succ]) | (refine seq_take (v := ?_) (by rfl) ?_ ?_; rotate_left; (focus ((intro w hSw; (try dsimp only at hSw); go_simp; (try with_reducible rfl)); done)); try simp only [Act.put, List.setIfInBounds_toArray, List.set_cons_zero, List.set_cons_succ])) | (refine seq_do (fun K hK => ?_); go_simp; go_at_call 15; (with_reducible refine Calls.mono (ob_root_is HO5.out.drew HR.out) ?_); rintro e w6 ⟨rfl, rfl⟩; dsimp only; refine hK.out _ _ (by assumption) (fun _ => ?_); clear hK K))
              refine seq_done ?_
              clear hHeld
              go_wp2
              go_meet
              exact ⟨bm, n + 1, s2, _, by omega, hbm, HS2.out, HO5.out.drew, below_drew HB5.out⟩
          · obtain ⟨v, s2, f2, he, hv, hr, hs2⟩ : ∃ v s2 f2, hear a0 s f x1 (x2, x3) = (v, s2, f2) ∧ v = 0 ∧ s2.root = s.root ∧ StOk a0 a1_0 a1_1 s2 := ⟨_, _, _, hear_not ht, rfl, rfl, HS.out⟩
            subst hv
            have HE := Lib.hid he
            have HR := Lib.hid hr
            have HS2 := Lib.hid hs2
            clear ht he hr hs2
            have q3 : decide (s.root < s.root) = false := by simp
            by_cases hw : s.root < 0
            · have q1 : decide (0 ≤ s.root) = false := by simp; omega
              have q2 : decide (s.root < 0) = true := by simpa using hw
              clear hw
              go_wp2_with fail
              refine (ob_hear_is HO2.out HN.out HW.out HE.out).mono ?_
              rintro e w5 ⟨rfl, ho, hk⟩
              have HO5 := Lib.hid ho
              have HX5 := Lib.hid (blk_kp HX2.out hk (by omega))
              have HB5 := Lib.hid (below_kp HB2.out HB2.out.size hk (fun k hk => by omega))
              clear ho hk HO2 HX2 HB2 b1 b2 b3
              go_wp2_with fail
              refine wp_region_seq [(0, true), (1, true), (2, true), (3, true), (5, true), (4, false), (6, true), (7, true), (8, true), (9, true), (10, true), (11, true), (12, true), (14, true), (13, false), (15, true), (16, true), (17, true), (18, true), (19, true), (20, true), (21, true), (22, true), (24, true), (25, true), (23, false), (26, true), (27, true), (28, true)] (fun w' => w'.cell? ⟨bx, 1, none⟩ = some (.int .i64 x1)) (by kernel_rfl) (by kernel_rfl) (HX5.out.drew.cell 1) (fun hHeld => ?_)
              simp only [List.map_cons, List.map_nil, List.getElem?_toArray, List.getElem?_cons_zero, List.getElem?_cons_succ]
              repeat (first | (first | (refine seq_skip (by rfl) ?_; try simp only [Act.put, List.setIfInBounds_toArray, List.set_cons_zero, List.set_cons_succ]) | (refine seq_not (by rfl) (by assumption) ?_; try simp only [Act.put, List.setIfInBounds_toArray, List.set_cons_zero, List.set_cons_succ]) | (refine seq_take (v := ?_) (by rfl) ?_ ?_; rotate_left; (focus ((intro w hSw; (try dsimp only at hSw); go_simp; (try with_reducible rfl)); done)); try simp only [Act.put, List.setIfInBounds_toArray, List.set_cons_zero, List.set_cons_succ])) | (refine seq_do (fun K hK => ?_); go_simp; go_at_call 15; (with_reducible refine Calls.mono (ob_root_is HO5.out.drew HR.out) ?_); rintro e w6 ⟨rfl, rfl⟩; dsimp only; refine hK.out _ _ (by assumption) (fun _ => ?_); clear hK K))
              refine seq_done ?_
              clear hHeld
              go_wp2
              go_meet
              exact ⟨bm, n + 1, s2, _, by omega, hbm, HS2.out, HO5.out.drew, below_drew HB5.out⟩
            · have q1 : decide (0 ≤ s.root) = true := by simp; omega
              have q2 : decide (s.root < 0) = false := by simpa using hw
              clear hw
              go_wp2_with fail
              refine (ob_hear_is HO2.out HN.out HW.out HE.out).mono ?_
              rintro e w5 ⟨rfl, ho, hk⟩
              have HO5 := Lib.hid ho
              have HX5 := Lib.hid (blk_kp HX2.out hk (by omega))
              have HB5 := Lib.hid (below_kp HB2.out HB2.out.size hk (fun k hk => by omega))
              clear ho hk HO2 HX2 HB2 b1 b2 b3
              go_wp2_with fail
              refine wp_region_seq [(0, true), (1, true), (2, true), (3, true), (5, true), (4, false), (6, true), (7, true), (8, true), (9, true), (10, true), (11, true), (12, true), (14, true), (13, false), (15, true), (16, true), (17, true), (18, true), (19, true), (20, true), (21, true), (22, true), (24, true), (25, true), (23, false), (26, true), (27, true), (28, true)] (fun w' => w'.cell? ⟨bx, 1, none⟩ = some (.int .i64 x1)) (by kernel_rfl) (by kernel_rfl) (HX5.out.drew.cell 1) (fun hHeld => ?_)
              simp only [List.map_cons, List.map_nil, List.getElem?_toArray, List.getElem?_cons_zero, List.getElem?_cons_succ]
              repeat (first | (first | (refine seq_skip (by rfl) ?_; try simp only [Act.put, List.setIfInBounds_toArray, List.set_cons_zero, List.set_cons_succ]) | (refine seq_not (by rfl) (by assumption) ?_; try simp only [Act.put, List.setIfInBounds_toArray, List.set_cons_zero, List.set_cons_succ]) | (refine seq_take (v := ?_) (by rfl) ?_ ?_; rotate_left; (focus ((intro w hSw; (try dsimp only at hSw); go_simp; (try with_reducible rfl)); done)); try simp only [Act.put, List.setIfInBounds_toArray, List.set_cons_zero, List.set_cons_succ])) | (refine seq_do (fun K hK => ?_); go_simp; go_at_call 15; (with_reducible refine Calls.mono (ob_root_is HO5.out.drew HR.out) ?_); rintro e w6 ⟨rfl, rfl⟩; dsimp only; refine hK.out _ _ (by assumption) (fun _ => ?_); clear hK K))
              refine seq_done ?_
              clear hHeld
              go_wp2
              go_meet
              exact ⟨bm, n + 1, s2, _, by omega, hbm, HS2.out, HO5.out.drew, below_drew HB5.out⟩
        by_cases k1 : x0 = 1
        · as_aux_lemma =>
          subst k1
          have ht : takes a0 s f x1 (x2, x3) = true ∨ takes a0 s f x1 (x2, x3) = false := by cases takes a0 s f x1 (x2, x3) <;> simp
          rcases ht with ht | ht
          · have hle := takes_le HS.out ht
            have hst := HS.out.hear (f := f) (r := x1) (m := (x2, x3)) RU.out
            obtain ⟨v, s2, he, hv, hr⟩ := hear_yes ht
            have HE := Lib.hid he
            have HR := Lib.hid hr
            have HS2 := Lib.hid (show StOk a0 a1_0 a1_1 s2 by rw [he] at hst; exact hst)
            have v1 : (v == 0) = false := by rcases hv with rfl | rfl <;> rfl
            have v2 : (v != 0) = true := by rcases hv with rfl | rfl <;> rfl
            clear ht he hst hr hv
            by_cases hw : s.root < 0
            · have q1 : decide (0 ≤ s.root) = false := by simp; omega
              have q2 : decide (s.root < 0) = true := by simpa using hw
              clear hle hw
              go_wp2_with fail
              refine (ob_hear_is HO2.out HN.out HW.out HE.out).mono ?_
              rintro e w5 ⟨rfl, ho, hk⟩
              have HO5 := Lib.hid ho
              have HX5 := Lib.hid (blk_kp HX2.out hk (by omega))
              have HB5 := Lib.hid (below_kp HB2.out HB2.out.size hk (fun k hk => by omega))
              clear ho hk HO2 HX2 HB2 b1 b2 b3
              go_wp2_with fail
              refine wp_region_seq [(0, true), (1, true), (2, true), (3, true), (5, true), (4, false), (6, true), (7, true), (8, true), (9, true), (10, true), (11, true), (12, true), (14, true), (13, false), (15, true), (16, true), (17, true), (18, true), (19, true), (20, true), (21, true), (22, true), (24, true), (25, true), (23, false), (26, true), (27, true), (28, true)] (fun w' => w'.cell? ⟨bx, 1, none⟩ = some (.int .i64 x1)) (by kernel_rfl) (by kernel_rfl) (HX5.out.drew.cell 1) (fun hHeld => ?_)
              simp only [List.map_cons, List.map_nil, List.getElem?_toArray, List.getElem?_cons_zero, List.getElem?_cons_succ]
              repeat (first | (first | (refine seq_skip (by rfl) ?_; try simp only [Act.put, List.setIfInBounds_toArray, List.set_cons_zero, List.set_cons_succ]) | (refine seq_not (by rfl) (by assumption) ?_; try simp only [Act.put, List.setIfInBounds_toArray, List.set_cons_zero, List.set_cons_succ]) | (refine seq_take (v := ?_) (by rfl) ?_ ?_; rotate_left; (focus ((intro w hSw; (try dsimp only at hSw); go_simp; (try with_reducible rfl)); done)); try simp only [Act.put, List.setIfInBounds_toArray, List.set_cons_zero, List.set_cons_succ])) | (refine seq_do (fun K hK => ?_); go_simp; go_at_call 15; (with_reducible refine Calls.mono (ob_root_is HO5.out.drew HR.out) ?_); rintro e w6 ⟨rfl, rfl⟩; dsimp only; refine hK.out _ _ (by assumption) (fun _ => ?_); clear hK K))
              refine seq_done ?_
              clear hHeld
              go_wp2
              go_meet
              exact ⟨bm, n + 1, s2, _, by omega, hbm, HS2.out, HO5.out.drew, below_drew HB5.out⟩
            · have q1 : decide (0 ≤ s.root) = true := by simp; omega
              have q2 : decide (s.root < 0) = false := by simpa using hw
              have q3 : decide (s.root < x1) = false := by have := hle (by omega); simp; omega
              have q4 : decide (x1 ≤ s.root) = true := by have := hle (by omega); simp; omega
              clear hle hw
              go_wp2_with fail
              refine (ob_hear_is HO2.out HN.out HW.out HE.out).mono ?_
              rintro e w5 ⟨rfl, ho, hk⟩
              have HO5 := Lib.hid ho
              have HX5 := Lib.hid (blk_kp HX2.out hk (by omega))
              have HB5 := Lib.hid (below_kp HB2.out HB2.out.size hk (fun k hk => by omega))
              clear ho hk HO2 HX2 HB2 b1 b2 b3
              go_wp2_with fail
              refine wp_region_seq [(0, true), (1, true), (2, true), (3, true), (5, true), (4, false), (6, true), (7, true), (8, true), (9, true), (10, true), (11, true), (12, true), (14, true), (13, false), (15, true), (16, true), (17, true), (18, true), (19, true), (20, true), (21, true), (22, true), (24, true), (25, true), (23, false), (26, true), (27, true), (28, true)] (fun w' => w'.cell? ⟨bx, 1, none⟩ = some (.int .i64 x1)) (by kernel_rfl) (by kernel_rfl) (HX5.out.drew.cell 1) (fun hHeld => ?_)
              simp only [List.map_cons, List.map_nil, List.getElem?_toArray, List.getElem?_cons_zero, List.getElem?_cons_succ]
              repeat (first | (first | (refine seq_skip (by rfl) ?_; try simp only [Act.put, List.setIfInBounds_toArray, List.set_cons_zero, List.set_cons_succ]) | (refine seq_not (by rfl) (by assumption) ?_; try simp only [Act.put, List.setIfInBounds_toArray, List.set_cons_zero, List.set_cons_succ]) | (refine seq_take (v := ?_) (by rfl) ?_ ?_; rotate_left; (focus ((intro w hSw; (try dsimp only at hSw); go_simp; (try with_reducible rfl)); done)); try simp only [Act.put, List.setIfInBounds_toArray, List.set_cons_zero, List.set_cons_succ])) | (refine seq_do (fun K hK => ?_); go_simp; go_at_call 15; (with_reducible refine Calls.mono (ob_root_is HO5.out.drew HR.out) ?_); rintro e w6 ⟨rfl, rfl⟩; dsimp only; refine hK.out _ _ (by assumption) (fun _ => ?_); clear hK K))
              refine seq_done ?_
              clear hHeld
              go_wp2
              go_meet
              exact ⟨bm, n + 1, s2, _, by omega, hbm, HS2.out, HO5.out.drew, below_drew HB5.out⟩
          · obtain ⟨v, s2, f2, he, hv, hr, hs2⟩ : ∃ v s2 f2, hear a0 s f x1 (x2, x3) = (v, s2, f2) ∧ v = 0 ∧ s2.root = s.root ∧ StOk a0 a1_0 a1_1 s2 := ⟨_, _, _, hear_not ht, rfl, rfl, HS.out⟩
            subst hv
            have HE := Lib.hid he
            have HR := Lib.hid hr
            have HS2 := Lib.hid hs2
            clear ht he hr hs2
            have q3 : decide (s.root < s.root) = false := by simp
            by_cases hw : s.root < 0
            · have q1 : decide (0 ≤ s.root) = false := by simp; omega
              have q2 : decide (s.root < 0) = true := by simpa using hw
              clear hw
              go_wp2_with fail
              refine (ob_hear_is HO2.out HN.out HW.out HE.out).mono ?_
              rintro e w5 ⟨rfl, ho, hk⟩
              have HO5 := Lib.hid ho
              have HX5 := Lib.hid (blk_kp HX2.out hk (by omega))
              have HB5 := Lib.hid (below_kp HB2.out HB2.out.size hk (fun k hk => by omega))
              clear ho hk HO2 HX2 HB2 b1 b2 b3
              go_wp2_with fail
              refine wp_region_seq [(0, true), (1, true), (2, true), (3, true), (5, true), (4, false), (6, true), (7, true), (8, true), (9, true), (10, true), (11, true), (12, true), (14, true), (13, false), (15, true), (16, true), (17, true), (18, true), (19, true), (20, true), (21, true), (22, true), (24, true), (25, true), (23, false), (26, true), (27, true), (28, true)] (fun w' => w'.cell? ⟨bx, 1, none⟩ = some (.int .i64 x1)) (by kernel_rfl) (by kernel_rfl) (HX5.out.drew.cell 1) (fun hHeld => ?_)
              simp only [List.map_cons, List.map_nil, List.getElem?_toArray, List.getElem?_cons_zero, List.getElem?_cons_succ]
              repeat (first | (first | (refine seq_skip (by rfl) ?_; try simp only [Act.put, List.setIfInBounds_toArray, List.set_cons_zero, List.set_cons_succ]) | (refine seq_not (by rfl) (by assumption) ?_; try simp only [Act.put, List.setIfInBounds_toArray, List.set_cons_zero, List.set_cons_succ]) | (refine seq_take (v := ?_) (by rfl) ?_ ?_; rotate_left; (focus ((intro w hSw; (try dsimp only at hSw); go_simp; (try with_reducible rfl)); done)); try simp only [Act.put, List.setIfInBounds_toArray, List.set_cons_zero, List.set_cons_succ])) | (refine seq_do (fun K hK => ?_); go_simp; go_at_call 15; (with_reducible refine Calls.mono (ob_root_is HO5.out.drew HR.out) ?_); rintro e w6 ⟨rfl, rfl⟩; dsimp only; refine hK.out _ _ (by assumption) (fun _ => ?_); clear hK K))
              refine seq_done ?_
              clear hHeld
              go_wp2
              go_meet
              exact ⟨bm, n + 1, s2, _, by omega, hbm, HS2.out, HO5.out.drew, below_drew HB5.out⟩
            · have q1 : decide (0 ≤ s.root) = true := by simp; omega
              have q2 : decide (s.root < 0) = false := by simpa using hw
              clear hw
              go_wp2_with fail
              refine (ob_hear_is HO2.out HN.out HW.out HE.out).mono ?_
              rintro e w5 ⟨rfl, ho, hk⟩
              have HO5 := Lib.hid ho
              have HX5 := Lib.hid (blk_kp HX2.out hk (by omega))
              have HB5 := Lib.hid (below_kp HB2.out HB2.out.size hk (fun k hk => by omega))
              clear ho hk HO2 HX2 HB2 b1 b2 b3
              go_wp2_with fail
              refine wp_region_seq [(0, true), (1, true), (2, true), (3, true), (5, true), (4, false), (6, true), (7, true), (8, true), (9, true), (10, true), (11, true), (12, true), (14, true), (13, false), (15, true), (16, true), (17, true), (18, true), (19, true), (20, true), (21, true), (22, true), (24, true), (25, true), (23, false), (26, true), (27, true), (28, true)] (fun w' => w'.cell? ⟨bx, 1, none⟩ = some (.int .i64 x1)) (by kernel_rfl) (by kernel_rfl) (HX5.out.drew.cell 1) (fun hHeld => ?_)
              simp only [List.map_cons, List.map_nil, List.getElem?_toArray, List.getElem?_cons_zero, List.getElem?_cons_succ]
              repeat (first | (first | (refine seq_skip (by rfl) ?_; try simp only [Act.put, List.setIfInBounds_toArray, List.set_cons_zero, List.set_cons_succ]) | (refine seq_not (by rfl) (by assumption) ?_; try simp only [Act.put, List.setIfInBounds_toArray, List.set_cons_zero, List.set_cons_succ]) | (refine seq_take (v := ?_) (by rfl) ?_ ?_; rotate_left; (focus ((intro w hSw; (try dsimp only at hSw); go_simp; (try with_reducible rfl)); done)); try simp only [Act.put, List.setIfInBounds_toArray, List.set_cons_zero, List.set_cons_succ])) | (refine seq_do (fun K hK => ?_); go_simp; go_at_call 15; (with_reducible refine Calls.mono (ob_root_is HO5.out.drew HR.out) ?_); rintro e w6 ⟨rfl, rfl⟩; dsimp only; refine hK.out _ _ (by assumption) (fun _ => ?_); clear hK K))
              refine seq_done ?_
              clear hHeld
              go_wp2
              go_meet
              exact ⟨bm, n + 1, s2, _, by omega, hbm, HS2.out, HO5.out.drew, below_drew HB5.out⟩
        by_cases k2 : x0 = 2
        · as_aux_lemma =>
          subst k2
          have ht : takes a0 s f x1 (x2, x3) = true ∨ takes a0 s f x1 (x2, x3) = false := by cases takes a0 s f x1 (x2, x3) <;> simp
          rcases ht with ht | ht
          · have hle := takes_le HS.out ht
            have hst := HS.out.hear (f := f) (r := x1) (m := (x2, x3)) RU.out
            obtain ⟨v, s2, he, hv, hr⟩ := hear_yes ht
            have HE := Lib.hid he
            have HR := Lib.hid hr
            have HS2 := Lib.hid (show StOk a0 a1_0 a1_1 s2 by rw [he] at hst; exact hst)
            have v1 : (v == 0) = false := by rcases hv with rfl | rfl <;> rfl
            have v2 : (v != 0) = true := by rcases hv with rfl | rfl <;> rfl
            clear ht he hst hr hv
            by_cases hw : s.root < 0
            · have q1 : decide (0 ≤ s.root) = false := by simp; omega
              have q2 : decide (s.root < 0) = true := by simpa using hw
              clear hle hw
              go_wp2_with fail
              refine (ob_hear_is HO2.out HN.out HW.out HE.out).mono ?_
              rintro e w5 ⟨rfl, ho, hk⟩
              have HO5 := Lib.hid ho
              have HX5 := Lib.hid (blk_kp HX2.out hk (by omega))
              have HB5 := Lib.hid (below_kp HB2.out HB2.out.size hk (fun k hk => by omega))
              clear ho hk HO2 HX2 HB2 b1 b2 b3
              go_wp2_with fail
              refine wp_region_seq [(0, true), (1, true), (2, true), (3, true), (5, true), (4, false), (6, true), (7, true), (8, true), (9, true), (10, true), (11, true), (12, true), (14, true), (13, false), (15, true), (16, true), (17, true), (18, true), (19, true), (20, true), (21, true), (22, true), (24, true), (25, true), (23, false), (26, true), (27, true), (28, true)] (fun w' => w'.cell? ⟨bx, 1, none⟩ = some (.int .i64 x1)) (by kernel_rfl) (by kernel_rfl) (HX5.out.drew.cell 1) (fun hHeld => ?_)
              simp only [List.map_cons, List.map_nil, List.getElem?_toArray, List.getElem?_cons_zero, List.getElem?_cons_succ]
              repeat (first | (first | (refine seq_skip (by rfl) ?_; try simp only [Act.put, List.setIfInBounds_toArray, List.set_cons_zero, List.set_cons_succ]) | (refine seq_not (by rfl) (by assumption) ?_; try simp only [Act.put, List.setIfInBounds_toArray, List.set_cons_zero, List.set_cons_succ]) | (refine seq_take (v := ?_) (by rfl) ?_ ?_; rotate_left; (focus ((intro w hSw; (try dsimp only at hSw); go_simp; (try with_reducible rfl)); done)); try simp only [Act.put, List.setIfInBounds_toArray, List.set_cons_zero, List.set_cons_succ])) | (refine seq_do (fun K hK => ?_); go_simp; go_at_call 15; (with_reducible refine Calls.mono (ob_root_is HO5.out.drew HR.out) ?_); rintro e w6 ⟨rfl, rfl⟩; dsimp only; refine hK.out _ _ (by assumption) (fun _ => ?_); clear hK K))
              refine seq_done ?_
              clear hHeld
              go_wp2
              go_meet
              exact ⟨bm, n + 1, s2, _, by omega, hbm, HS2.out, HO5.out.drew, below_drew HB5.out⟩
            · have q1 : decide (0 ≤ s.root) = true := by simp; omega
              have q2 : decide (s.root < 0) = false := by simpa using hw
              have q3 : decide (s.root < x1) = false := by have := hle (by omega); simp; omega
              have q4 : decide (x1 ≤ s.root) = true := by have := hle (by omega); simp; omega
              clear hle hw
              go_wp2_with fail
              refine (ob_hear_is HO2.out HN.out HW.out HE.out).mono ?_
              rintro e w5 ⟨rfl, ho, hk⟩
              have HO5 := Lib.hid ho
              have HX5 := Lib.hid (blk_kp HX2.out hk (by omega))
              have HB5 := Lib.hid (below_kp HB2.out HB2.out.size hk (fun k hk => by omega))
              clear ho hk HO2 HX2 HB2 b1 b2 b3
              go_wp2_with fail
              refine wp_region_seq [(0, true), (1, true), (2, true), (3, true), (5, true), (4, false), (6, true), (7, true), (8, true), (9, true), (10, true), (11, true), (12, true), (14, true), (13, false), (15, true), (16, true), (17, true), (18, true), (19, true), (20, true), (21, true), (22, true), (24, true), (25, true), (23, false), (26, true), (27, true), (28, true)] (fun w' => w'.cell? ⟨bx, 1, none⟩ = some (.int .i64 x1)) (by kernel_rfl) (by kernel_rfl) (HX5.out.drew.cell 1) (fun hHeld => ?_)
              simp only [List.map_cons, List.map_nil, List.getElem?_toArray, List.getElem?_cons_zero, List.getElem?_cons_succ]
              repeat (first | (first | (refine seq_skip (by rfl) ?_; try simp only [Act.put, List.setIfInBounds_toArray, List.set_cons_zero, List.set_cons_succ]) | (refine seq_not (by rfl) (by assumption) ?_; try simp only [Act.put, List.setIfInBounds_toArray, List.set_cons_zero, List.set_cons_succ]) | (refine seq_take (v := ?_) (by rfl) ?_ ?_; rotate_left; (focus ((intro w hSw; (try dsimp only at hSw); go_simp; (try with_reducible rfl)); done)); try simp only [Act.put, List.setIfInBounds_toArray, List.set_cons_zero, List.set_cons_succ])) | (refine seq_do (fun K hK => ?_); go_simp; go_at_call 15; (with_reducible refine Calls.mono (ob_root_is HO5.out.drew HR.out) ?_); rintro e w6 ⟨rfl, rfl⟩; dsimp only; refine hK.out _ _ (by assumption) (fun _ => ?_); clear hK K))
              refine seq_done ?_
              clear hHeld
              go_wp2
              go_meet
              exact ⟨bm, n + 1, s2, _, by omega, hbm, HS2.out, HO5.out.drew, below_drew HB5.out⟩
          · obtain ⟨v, s2, f2, he, hv, hr, hs2⟩ : ∃ v s2 f2, hear a0 s f x1 (x2, x3) = (v, s2, f2) ∧ v = 0 ∧ s2.root = s.root ∧ StOk a0 a1_0 a1_1 s2 := ⟨_, _, _, hear_not ht, rfl, rfl, HS.out⟩
            subst hv
            have HE := Lib.hid he
            have HR := Lib.hid hr
            have HS2 := Lib.hid hs2
            clear ht he hr hs2
            have q3 : decide (s.root < s.root) = false := by simp
            by_cases hw : s.root < 0
            · have q1 : decide (0 ≤ s.root) = false := by simp; omega
              have q2 : decide (s.root < 0) = true := by simpa using hw
              clear hw
              go_wp2_with fail
              refine (ob_hear_is HO2.out HN.out HW.out HE.out).mono ?_
              rintro e w5 ⟨rfl, ho, hk⟩
              have HO5 := Lib.hid ho
              have HX5 := Lib.hid (blk_kp HX2.out hk (by omega))
              have HB5 := Lib.hid (below_kp HB2.out HB2.out.size hk (fun k hk => by omega))
              clear ho hk HO2 HX2 HB2 b1 b2 b3
              go_wp2_with fail
              refine wp_region_seq [(0, true), (1, true), (2, true), (3, true), (5, true), (4, false), (6, true), (7, true), (8, true), (9, true), (10, true), (11, true), (12, true), (14, true), (13, false), (15, true), (16, true), (17, true), (18, true), (19, true), (20, true), (21, true), (22, true), (24, true), (25, true), (23, false), (26, true), (27, true), (28, true)] (fun w' => w'.cell? ⟨bx, 1, none⟩ = some (.int .i64 x1)) (by kernel_rfl) (by kernel_rfl) (HX5.out.drew.cell 1) (fun hHeld => ?_)
              simp only [List.map_cons, List.map_nil, List.getElem?_toArray, List.getElem?_cons_zero, List.getElem?_cons_succ]
              repeat (first | (first | (refine seq_skip (by rfl) ?_; try simp only [Act.put, List.setIfInBounds_toArray, List.set_cons_zero, List.set_cons_succ]) | (refine seq_not (by rfl) (by assumption) ?_; try simp only [Act.put, List.setIfInBounds_toArray, List.set_cons_zero, List.set_cons_succ]) | (refine seq_take (v := ?_) (by rfl) ?_ ?_; rotate_left; (focus ((intro w hSw; (try dsimp only at hSw); go_simp; (try with_reducible rfl)); done)); try simp only [Act.put, List.setIfInBounds_toArray, List.set_cons_zero, List.set_cons_succ])) | (refine seq_do (fun K hK => ?_); go_simp; go_at_call 15; (with_reducible refine Calls.mono (ob_root_is HO5.out.drew HR.out) ?_); rintro e w6 ⟨rfl, rfl⟩; dsimp only; refine hK.out _ _ (by assumption) (fun _ => ?_); clear hK K))
              refine seq_done ?_
              clear hHeld
              go_wp2
              go_meet
              exact ⟨bm, n + 1, s2, _, by omega, hbm, HS2.out, HO5.out.drew, below_drew HB5.out⟩
            · have q1 : decide (0 ≤ s.root) = true := by simp; omega
              have q2 : decide (s.root < 0) = false := by simpa using hw
              clear hw
              go_wp2_with fail
              refine (ob_hear_is HO2.out HN.out HW.out HE.out).mono ?_
              rintro e w5 ⟨rfl, ho, hk⟩
              have HO5 := Lib.hid ho
              have HX5 := Lib.hid (blk_kp HX2.out hk (by omega))
              have HB5 := Lib.hid (below_kp HB2.out HB2.out.size hk (fun k hk => by omega))
              clear ho hk HO2 HX2 HB2 b1 b2 b3
              go_wp2_with fail
              refine wp_region_seq [(0, true), (1, true), (2, true), (3, true), (5, true), (4, false), (6, true), (7, true), (8, true), (9, true), (10, true), (11, true), (12, true), (14, true), (13, false), (15, true), (16, true), (17, true), (18, true), (19, true), (20, true), (21, true), (22, true), (24, true), (25, true), (23, false), (26, true), (27, true), (28, true)] (fun w' => w'.cell? ⟨bx, 1, none⟩ = some (.int .i64 x1)) (by kernel_rfl) (by kernel_rfl) (HX5.out.drew.cell 1) (fun hHeld => ?_)
              simp only [List.map_cons, List.map_nil, List.getElem?_toArray, List.getElem?_cons_zero, List.getElem?_cons_succ]
              repeat (first | (first | (refine seq_skip (by rfl) ?_; try simp only [Act.put, List.setIfInBounds_toArray, List.set_cons_zero, List.set_cons_succ]) | (refine seq_not (by rfl) (by assumption) ?_; try simp only [Act.put, List.setIfInBounds_toArray, List.set_cons_zero, List.set_cons_succ]) | (refine seq_take (v := ?_) (by rfl) ?_ ?_; rotate_left; (focus ((intro w hSw; (try dsimp only at hSw); go_simp; (try with_reducible rfl)); done)); try simp only [Act.put, List.setIfInBounds_toArray, List.set_cons_zero, List.set_cons_succ])) | (refine seq_do (fun K hK => ?_); go_simp; go_at_call 15; (with_reducible refine Calls.mono (ob_root_is HO5.out.drew HR.out) ?_); rintro e w6 ⟨rfl, rfl⟩; dsimp only; refine hK.out _ _ (by assumption) (fun _ => ?_); clear hK K))
              refine seq_done ?_
              clear hHeld
              go_wp2
              go_meet
              exact ⟨bm, n + 1, s2, _, by omega, hbm, HS2.out, HO5.out.drew, below_drew HB5.out⟩
        by_cases k3 : x0 = 3
        · as_aux_lemma =>
          subst k3
          have hst := HS.out.beat RU.out
          rcases beat_cases a0 a1_0 a1_1 s with ⟨s2, he, hr⟩ | ⟨s2, he, hr, hne⟩
          · have HE := Lib.hid he
            have HR := Lib.hid hr
            have HS2 := Lib.hid (show StOk a0 a1_0 a1_1 s2 by rw [he] at hst; exact hst)
            clear he hr hst
            go_wp2_with fail
            refine (ob_beat_is HO2.out RU.out HS.out HE.out).mono ?_
            rintro e w5 ⟨rfl, ho, hk⟩
            have HO5 := Lib.hid ho
            have HB5 := Lib.hid (below_kp HB2.out HB2.out.size hk (fun k hk => by omega))
            clear ho hk HO2 HX2 HB2 b1 b2 b3
            go_wp2_with (go_at_call 15; (with_reducible refine Calls.mono (ob_root_is HO5.out HR.out) ?_); rintro e w6 ⟨rfl, rfl⟩)
            go_meet
            exact ⟨bm, n, s2, f, by omega, hbm, HS2.out, HO5.out, HB5.out⟩
          · have HE := Lib.hid he
            have HR := Lib.hid hr
            have HS2 := Lib.hid (show StOk a0 a1_0 a1_1 s2 by rw [he] at hst; exact hst)
            have q1 : (a0 == s.root) = false := by simpa using hne
            have q2 : (a0 != s.root) = true := by simpa using hne
            clear he hr hne hst
            go_wp2_with fail
            refine (ob_beat_is HO2.out RU.out HS.out HE.out).mono ?_
            rintro e w5 ⟨rfl, ho, hk⟩
            have HO5 := Lib.hid ho
            have HB5 := Lib.hid (below_kp HB2.out HB2.out.size hk (fun k hk => by omega))
            clear ho hk HO2 HX2 HB2 b1 b2 b3
            go_wp2_with (go_at_call 15; (with_reducible refine Calls.mono (ob_root_is HO5.out HR.out) ?_); rintro e w6 ⟨rfl, rfl⟩)
            go_meet
            exact ⟨bm, n, s2, f, by omega, hbm, HS2.out, HO5.out, HB5.out⟩
        by_cases k4 : x0 = 4
        · as_aux_lemma =>
          subst k4
          have hst := HS.out.beat RU.out
          rcases beat_cases a0 a1_0 a1_1 s with ⟨s2, he, hr⟩ | ⟨s2, he, hr, hne⟩
          · have HE := Lib.hid he
            have HR := Lib.hid hr
            have HS2 := Lib.hid (show StOk a0 a1_0 a1_1 s2 by rw [he] at hst; exact hst)
            clear he hr hst
            go_wp2_with fail
            refine (ob_beat_is HO2.out RU.out HS.out HE.out).mono ?_
            rintro e w5 ⟨rfl, ho, hk⟩
            have HO5 := Lib.hid ho
            have HB5 := Lib.hid (below_kp HB2.out HB2.out.size hk (fun k hk => by omega))
            clear ho hk HO2 HX2 HB2 b1 b2 b3
            go_wp2_with (go_at_call 15; (with_reducible refine Calls.mono (ob_root_is HO5.out HR.out) ?_); rintro e w6 ⟨rfl, rfl⟩)
            go_meet
            exact ⟨bm, n, s2, f, by omega, hbm, HS2.out, HO5.out, HB5.out⟩
          · have HE := Lib.hid he
            have HR := Lib.hid hr
            have HS2 := Lib.hid (show StOk a0 a1_0 a1_1 s2 by rw [he] at hst; exact hst)
            have q1 : (a0 == s.root) = false := by simpa using hne
            have q2 : (a0 != s.root) = true := by simpa using hne
            clear he hr hne hst
            go_wp2_with fail
            refine (ob_beat_is HO2.out RU.out HS.out HE.out).mono ?_
            rintro e w5 ⟨rfl, ho, hk⟩
            have HO5 := Lib.hid ho
            have HB5 := Lib.hid (below_kp HB2.out HB2.out.size hk (fun k hk => by omega))
            clear ho hk HO2 HX2 HB2 b1 b2 b3
            go_wp2_with (go_at_call 15; (with_reducible refine Calls.mono (ob_root_is HO5.out HR.out) ?_); rintro e w6 ⟨rfl, rfl⟩)
            go_meet
            exact ⟨bm, n, s2, f, by omega, hbm, HS2.out, HO5.out, HB5.out⟩
        by_cases k5 : x0 = 5
        · as_aux_lemma =>
          subst k5
          go_wp2_with fail
          refine (ob_issue HO2.out).mono ?_
          rintro e w5 ⟨rfl, ho, hk⟩
          have HB5 := Lib.hid (below_kp HB2.out HB2.out.size hk (fun k hk => by omega))
          have HO5 := Lib.hid ho
          clear ho hk
          go_wp2
          go_meet
          exact ⟨bm, n, _, f, by omega, hbm, HS.out.issue, HO5.out, HB5.out⟩
        by_cases k6 : x0 = 6
        · as_aux_lemma =>
          subst k6
          go_wp2_with fail
          refine (ob_boot x2 HO2.out).mono ?_
          rintro e w5 ⟨rfl, bm2, ho, hbm2, hk⟩
          have HB5 := Lib.hid (below_kp HB2.out HB2.out.size hk (fun k hk => by omega))
          have HO5 := Lib.hid ho
          have hs2 := HB2.out.size
          clear ho hk
          go_wp2_with (go_at_call 15; (with_reducible refine Calls.mono (ob_root_is (r := -1) HO5.out rfl) ?_); rintro e w4 ⟨rfl, rfl⟩)
          go_meet
          exact ⟨bm2, 0, _, _, by omega, by omega, StOk.st0 RU.out x2, HO5.out, HB5.out⟩
        have k0b : (x0 == 0) = false := by simpa using k0
        have k1b : (x0 == 1) = false := by simpa using k1
        have k2b : (x0 == 2) = false := by simpa using k2
        have k3b : (x0 == 3) = false := by simpa using k3
        have k4b : (x0 == 4) = false := by simpa using k4
        have k5b : (x0 == 5) = false := by simpa using k5
        have k6b : (x0 == 6) = false := by simpa using k6
        clear k0 k1 k2 k3 k4 k5 k6
        go_wp2
        go_meet
        exact ⟨bm, n, s, f, by omega, hbm, HS.out, HO2.out, HB2.out⟩
      case rest =>
        clear HO2 HX2 HB2 HN b1 b2 b3 hop hom hbx hnk hbm HS
        obtain ⟨bm, n, s, f, hnk, hbm, hs, ho, hb⟩ := hcut
        have HS := Lib.hid hs
        have HO := Lib.hid ho
        have HB := Lib.hid hb
        have hr1 : ¬ a0 < s.root := by have := hs.r1; omega
        have hr2 : ¬ s.root < -1 := by have := hs.r0; omega
        clear hs ho hb
        go_wp2_with (go_at_call 15; (with_reducible refine Calls.mono (ob_root HO.out) ?_); rintro e w4 ⟨rfl, rfl⟩)
        go_roundw
        case rel => exact ⟨k + 1, bm, n, s, f, by omega, hnk, by go_num, hbm, HS.out, HO.out, HB.out⟩
        case measure => simp [intOf]; omega
    · go_wp2
      go_ret
      exact ⟨rfl, HB.out⟩
end Go.Proofs.Ythnnejflgbminaa.ElectRisesW
