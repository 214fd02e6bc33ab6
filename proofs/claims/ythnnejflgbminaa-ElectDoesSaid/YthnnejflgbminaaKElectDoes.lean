/- In every script each answer, the root and its mark are the document's; what can't be is refused; a nil node. No condition. -/
import Derived.Test.YthnnejflgbminaaRf3
import Derived.Test.YthnnejflgbminaaLf
import Derived.Deep.CutBlock
import Derived.Deep.DeepCutAuto
namespace Go.Proofs.Ythnnejflgbminaa.ElectDoesW
open Go.RowKit Go.Proofs.Ythnnejflgbminaa.Bk Go.Proofs.Ythnnejflgbminaa.Rw Go.Proofs.Ythnnejflgbminaa.Ow Go.Proofs.Ythnnejflgbminaa.Kp Go.Proofs.Ythnnejflgbminaa.Sq Go.Proofs.Ythnnejflgbminaa.Ck Go.Proofs.Ythnnejflgbminaa.Ck2 Go.Proofs.Ythnnejflgbminaa.Mp Go.Proofs.Ythnnejflgbminaa.El

theorem elem2 {w : World} {A : Option Addr} {len : Nat} {vs : List (List Value)} (h : Lf.RowsAt w [.i .i64, .i .i64, .i .u16, .i .u16] A len vs) {k : Nat} (hk : k < len) :
    ∃ (ad : Addr) (x0 : Int) (x1 : Int) (x2 : Int) (x3 : Int), A = some ad ∧ vs[k]? = some [.int .i64 x0, .int .i64 x1, .int .u16 x2, .int .u16 x3] ∧ w.cell? (ad.add (k * 4)) = some (.int .i64 x0) ∧ w.cell? ⟨(ad.add (k * 4)).block, (ad.add (k * 4)).off + 1, none⟩ = some (.int .i64 x1) ∧ w.cell? ⟨(ad.add (k * 4)).block, (ad.add (k * 4)).off + 2, none⟩ = some (.int .u16 x2) ∧ w.cell? ⟨(ad.add (k * 4)).block, (ad.add (k * 4)).off + 3, none⟩ = some (.int .u16 x3) ∧ (Lit.int .i64 x0).wf = true ∧ (Lit.int .i64 x1).wf = true ∧ (Lit.int .u16 x2).wf = true ∧ (Lit.int .u16 x3).wf = true := by
  obtain ⟨ad, c, rfl, hv, hL, hc0, hcj⟩ := h.elem hk
  obtain ⟨u0, g0, q0, ⟨x0, e0, f0⟩, L0⟩ := hL.cons
  obtain ⟨u1, g1, q1, ⟨x1, e1, f1⟩, L1⟩ := L0.cons
  obtain ⟨u2, g2, q2, ⟨x2, e2, f2⟩, L2⟩ := L1.cons
  obtain ⟨u3, g3, q3, ⟨x3, e3, f3⟩, L3⟩ := L2.cons
  have n_ := L3.nil
  have hcc : c = [.int .i64 x0, .int .i64 x1, .int .u16 x2, .int .u16 x3] := by rw [q0, e0, q1, e1, q2, e2, q3, e3, n_]
  rw [hcc] at hv hc0 hcj
  exact ⟨ad, x0, x1, x2, x3, rfl, hv, hc0 _ rfl, hcj 0 _ rfl, hcj 1 _ rfl, hcj 2 _ rfl, f0, f1, f2, f3⟩
theorem re_nd {w : World} {r p bm : Nat} {me t g me' t' g' : Int} {s s' : St} {f : Int → Option (Int × Int)} (h : Re w r me t g s f) (h2 : Nd w p me' t' g' s' bm) : r ≠ p := by
  obtain ⟨cs, h1, _, _⟩ := h
  exact Blk.ne_ h1 h2 (by decide)
theorem re_box {w : World} {r p : Nat} {me t g : Int} {s : St} {f : Int → Option (Int × Int)} {cs : Array Value} (h : Re w r me t g s f) (h2 : Blk w p 23 cs) : r ≠ p := by
  obtain ⟨cs, h1, _, _⟩ := h
  exact Blk.ne_ h1 h2 (by decide)
theorem re_mp {w : World} {r bm n : Nat} {me t g : Int} {s : St} {f f' : Int → Option (Int × Int)} (h : Re w r me t g s f) (h2 : Mp w bm n f') : bm ≠ r := by
  obtain ⟨cs, h1, _, _⟩ := h
  exact h2.blk_ne h1
theorem seq_hear {me a : Int} {s : St} {f : Int → Option (Int × Int)} {m : Int × Int} : (hear me s f a m).2.1.seq = s.seq := by
  unfold El.hear
  split <;> rfl
theorem seq_beat {me t g : Int} {s : St} : (beat me t g s).2.seq = s.seq := by
  unfold El.beat
  split
  · rfl
  · split <;> rfl

set_option maxRecDepth 100000 in
set_option maxHeartbeats 1000000 in
theorem early (a0 a1_0 a1_1 : Int) (a2 : Option Addr) (len2 cap2 : Nat) (W : World) (h : (a0 < 0 ∨ 63 < a0) ∨ gd a1_0 a1_1 = false) (hl : ¬ (300 : Int) < len2) :
    Calls Try.prog 6 #[.int .i64 a0, .agg #[.int .i64 a1_0, .int .i64 a1_1], .slice a2 len2 cap2] W fun e w' => e = .returned (.bool true) ∧ Below W.heap.size W w' := by
  have N0 := Lib.hid (fun w => new_no a0 a1_0 a1_1 w h)
  have GR := Lib.hid (fun w => show Calls Try.prog 18 #[.int .i64 a0, .int .i64 a1_0, .int .i64 a1_1] w fun e w' => e = .returned (.bool false) ∧ w = w' from by
    have := rgood_ok a0 a1_0 a1_1 w
    rwa [show (decide (0 ≤ a0 ∧ a0 ≤ 63) && gd a1_0 a1_1) = false by
      rcases h with h | h
      · rw [decide_eq_false (by omega), Bool.false_and]
      · rw [h, Bool.and_false]] at this)
  obtain ⟨gv, hgv⟩ : ∃ gv, gd a1_0 a1_1 = gv := ⟨_, rfl⟩
  have GO := Lib.hid (fun w => hgv ▸ good_ok a1_0 a1_1 w)
  have hcase : gv = false ∨ gv = true ∧ a0 < 0 ∨ gv = true ∧ ¬ a0 < 0 ∧ 63 < a0 := by
    rw [hgv] at h
    cases gv with
    | false => exact .inl rfl
    | true =>
      right
      rcases h with h | h
      · by_cases h0 : a0 < 0
        · exact .inl ⟨rfl, h0⟩
        · exact .inr ⟨rfl, h0, by omega⟩
      · cases h
  have HX0 := Lib.hid (Blk.new W 23 #[.int .i64 a1_0, .int .i64 a1_1])
  have HB0 := Lib.hid ((Below.refl _ W).alloc (Nat.le_refl _) (.cells #[.int .i64 a1_0, .int .i64 a1_1] 23))
  have HC := Lib.hid hcase
  clear h hgv hcase
  go_enter Try.func6, Try.ntmps6
  go_wp2_with fail
  refine (alive_ok _).mono ?_
  rintro e w1 ⟨rfl, hb⟩
  have HX1 := Lib.hid (HX0.out.keeps hb)
  have HB1 := Lib.hid (HB0.out.trans (hb.mono HB0.out.size))
  have hx := cells2 HX1.out
  obtain ⟨x0, x1, _, _⟩ := hx
  clear hb HX0 HB0
  go_wp2_with fail
  refine (N0.out _).mono ?_
  rintro e w2 ⟨rfl, hb⟩
  have HX2 := Lib.hid (HX1.out.keeps hb)
  have HB2 := Lib.hid (HB1.out.trans (hb.mono HB1.out.size))
  clear hb x0 x1 HX1 HB1
  have HN0 := Lib.hid (Below.refl w2.heap.size w2)
  have MN := Lib.hid (fun w => show Calls Try.prog 17 #[.pointer none] w fun e w' => e = .returned (.tuple #[.agg #[.int .u16 0, .int .u16 0], .bool false]) ∧ Below w.heap.size w w' from mark_nil w)
  have IN := Lib.hid (fun w => show Calls Try.prog 16 #[.pointer none] w fun e w' => e = .returned (.tuple #[.agg #[.int .u16 0, .int .u16 0], .bool false]) ∧ Below w.heap.size w w' from issue_nil w)
  have HH := Lib.hid (fun w => show Calls Try.prog 10 #[.pointer none, .int .i64 0, .agg #[.int .u16 0, .int .u16 1]] w fun e w' => e = .returned (.int .i64 0) ∧ Below w.heap.size w w' from hear_nil 0 (0, 1) w)
  go_upto_region 12 with (first
    | (go_at_call 13; (with_reducible refine Calls.mono (boot_nil _ _) ?_); rintro e w1 ⟨rfl, rfl⟩)
    | (go_at_call 17; (with_reducible refine Calls.mono (MN.out _) ?_); rintro e w3 ⟨rfl, hb⟩; have HN3 := Lib.hid ((HN0.out.trans hb).alloc hb.size (.cells #[.int .u16 0, .int .u16 0] 32)); clear hb)
    | (go_at_call 16; (with_reducible refine Calls.mono (IN.out _) ?_); rintro e w4 ⟨rfl, hb⟩; have HN4 := Lib.hid ((HN3.out.trans (hb.mono HN3.out.size)).alloc (Nat.le_trans HN3.out.size hb.size) (.cells #[.int .u16 0, .int .u16 0] 32)); clear hb)
    | (go_at_call 15; (with_reducible refine Calls.mono (root_nil _) ?_); rintro e w1 ⟨rfl, rfl⟩)
    | (go_at_call 14; (with_reducible refine Calls.mono (mine_nil _) ?_); rintro e w1 ⟨rfl, rfl⟩)
    | (go_at_call 12; (with_reducible refine Calls.mono (beat_nil _) ?_); rintro e w1 ⟨rfl, rfl⟩)
    | (go_at_call 10; (with_reducible refine Calls.mono (HH.out _) ?_); rintro e w5 ⟨rfl, hb⟩; have HN5 := Lib.hid ((below_drew HN4.out).trans (hb.mono HN4.out.size)); clear hb))
  clear HN0 HN3 HN4 MN IN HH
  have HX5 := Lib.hid (HX2.out.keeps HN5.out)
  have HB5 := Lib.hid (HB2.out.trans (HN5.out.mono HB2.out.size))
  have hx := cells2 HX5.out
  obtain ⟨x0, x1, _, _⟩ := hx
  have hcase := HC.out
  rcases hcase with rfl | ⟨rfl, h0⟩ | ⟨rfl, h0, h1⟩
  all_goals
    go_wp2_with (first
      | (go_at_call 18; (with_reducible refine Calls.mono (GR.out _) ?_); rintro e w6 ⟨rfl, rfl⟩)
      | (go_at_call 19; (with_reducible refine Calls.mono (GO.out _) ?_); rintro e w6 ⟨rfl, hb⟩; have HB6 := Lib.hid (HB5.out.trans (hb.mono HB5.out.size)); clear hb))
    go_ret
    exact ⟨rfl, HB6.out⟩

set_option maxRecDepth 100000 in
set_option maxHeartbeats 8000000 in
set_option linter.unusedVariables false in
theorem walk (a0 : Int) (a1_0 : Int) (a1_1 : Int) (a2 : Option Addr) (len2 cap2 : Nat) (z2 : List (List Value)) (W : World) (w0 : (Lit.int .i64 a0).wf = true) (w1_0 : (Lit.int .i64 a1_0).wf = true) (w1_1 : (Lit.int .i64 a1_1).wf = true) (l2 : len2 ≤ cap2) (m2 : cap2 ≤ maxLen) (w2 : Lf.RowsAt W [.i .i64, .i .i64, .i .u16, .i .u16] a2 len2 z2) :
    Calls Try.prog 6 #[.int .i64 a0, .agg #[.int .i64 a1_0, .int .i64 a1_1], .slice a2 len2 cap2] W fun e w' => e = .returned (.bool true) ∧ Below W.heap.size W w' := by
  have hl8 : len2 ≤ 9223372036854775807 := by unfold maxLen at m2; omega
  have R := Lib.hid w2
  clear w0 w1_0 w1_1 w2 m2
  by_cases c3 : (300 : Int) < len2
  · have HB0 := Lib.hid ((Below.refl _ W).alloc (Nat.le_refl _) (.cells #[.int .i64 a1_0, .int .i64 a1_1] 23))
    go_enter Try.func6, Try.ntmps6
    go_wp2_with (go_at_call 8; refine (alive_ok _).mono ?_; rintro e w1 ⟨rfl, hb⟩; have HB1 := Lib.hid (HB0.out.trans (hb.mono HB0.out.size)); clear hb)
    go_ret
    exact ⟨rfl, HB1.out⟩
  by_cases hr : (a0 < 0 ∨ 63 < a0) ∨ gd a1_0 a1_1 = false
  · exact early a0 a1_0 a1_1 a2 len2 cap2 W hr c3
  have RU := Lib.hid (RuOk.of hr)
  have GR := Lib.hid (fun w => show Calls Try.prog 18 #[.int .i64 a0, .int .i64 a1_0, .int .i64 a1_1] w fun e w' => e = .returned (.bool true) ∧ w = w' from by
    have := rgood_ok a0 a1_0 a1_1 w
    rwa [RU.out.gd, decide_eq_true ⟨RU.out.m0, RU.out.m1⟩] at this)
  have GO := Lib.hid (fun w => RU.out.gd ▸ good_ok a1_0 a1_1 w)
  clear hr
  have HX0 := Lib.hid (Blk.new W 23 #[.int .i64 a1_0, .int .i64 a1_1])
  have HB0 := Lib.hid ((Below.refl _ W).alloc (Nat.le_refl _) (.cells #[.int .i64 a1_0, .int .i64 a1_1] 23))
  go_enter Try.func6, Try.ntmps6
  go_wp2_with fail
  refine (alive_ok _).mono ?_
  rintro e w1 ⟨rfl, hb⟩
  have HX1 := Lib.hid (HX0.out.keeps hb)
  have HB1 := Lib.hid (HB0.out.trans (hb.mono HB0.out.size))
  have hx := cells2 HX1.out
  obtain ⟨x0, x1, _, _⟩ := hx
  clear hb HX0 HB0
  go_wp2_with fail
  refine (ob_new _ RU.out).mono ?_
  rintro e w2 ⟨p, bm, rfl, ho, hp, hbm, hb⟩
  have HO2 := Lib.hid ho
  have HX2 := Lib.hid (HX1.out.keeps hb)
  have HB2 := Lib.hid (HB1.out.trans (hb.mono HB1.out.size))
  have hxl := HX1.out.lt
  have hpW : W.heap.size < p := by omega
  have hbW : W.heap.size < bm := by omega
  clear ho hb x0 x1 HX1 HB1 hxl hp hbm
  have HN0 := Lib.hid (Below.refl w2.heap.size w2)
  have MN := Lib.hid (fun w => show Calls Try.prog 17 #[.pointer none] w fun e w' => e = .returned (.tuple #[.agg #[.int .u16 0, .int .u16 0], .bool false]) ∧ Below w.heap.size w w' from mark_nil w)
  have IN := Lib.hid (fun w => show Calls Try.prog 16 #[.pointer none] w fun e w' => e = .returned (.tuple #[.agg #[.int .u16 0, .int .u16 0], .bool false]) ∧ Below w.heap.size w w' from issue_nil w)
  have HH := Lib.hid (fun w => show Calls Try.prog 10 #[.pointer none, .int .i64 0, .agg #[.int .u16 0, .int .u16 1]] w fun e w' => e = .returned (.int .i64 0) ∧ Below w.heap.size w w' from hear_nil 0 (0, 1) w)
  go_upto_region 12 with (first
    | (go_at_call 13; (with_reducible refine Calls.mono (boot_nil _ _) ?_); rintro e w1 ⟨rfl, rfl⟩)
    | (go_at_call 17; (with_reducible refine Calls.mono (MN.out _) ?_); rintro e w3 ⟨rfl, hb⟩; have HN3 := Lib.hid ((HN0.out.trans hb).alloc hb.size (.cells #[.int .u16 0, .int .u16 0] 32)); clear hb)
    | (go_at_call 16; (with_reducible refine Calls.mono (IN.out _) ?_); rintro e w4 ⟨rfl, hb⟩; have HN4 := Lib.hid ((HN3.out.trans (hb.mono HN3.out.size)).alloc (Nat.le_trans HN3.out.size hb.size) (.cells #[.int .u16 0, .int .u16 0] 32)); clear hb)
    | (go_at_call 15; (with_reducible refine Calls.mono (root_nil _) ?_); rintro e w1 ⟨rfl, rfl⟩)
    | (go_at_call 14; (with_reducible refine Calls.mono (mine_nil _) ?_); rintro e w1 ⟨rfl, rfl⟩)
    | (go_at_call 12; (with_reducible refine Calls.mono (beat_nil _) ?_); rintro e w1 ⟨rfl, rfl⟩)
    | (go_at_call 10; (with_reducible refine Calls.mono (HH.out _) ?_); rintro e w5 ⟨rfl, hb⟩; have HN5 := Lib.hid ((below_drew HN4.out).trans (hb.mono HN4.out.size)); clear hb))
  clear HN0 HN3 HN4 MN IN HH
  have HX5 := Lib.hid (HX2.out.keeps HN5.out)
  have HO5 := Lib.hid (HO2.out.below HN5.out)
  have HB5 := Lib.hid (HB2.out.trans (HN5.out.mono HB2.out.size))
  have hx := cells2 HX5.out
  obtain ⟨x0, x1, _, _⟩ := hx
  clear HX2 HO2 HB2 HN5
  go_wp2_with (go_at_call 18; (with_reducible refine Calls.mono (GR.out _) ?_); rintro e w6 ⟨rfl, rfl⟩)
  refine (rnew_ok a0 a1_0 a1_1 0 _).mono ?_
  rintro e w6 ⟨r, rfl, hre, hr, hb⟩
  have HX6 := Lib.hid (HX5.out.keeps hb)
  have HO6 := Lib.hid (HO5.out.below hb)
  have HR6 := Lib.hid hre
  have HB6 := Lib.hid (HB5.out.trans (hb.mono HB5.out.size))
  have hrW : W.heap.size ≤ r := Nat.le_trans HB5.out.size hr
  clear hre hb HX5 HO5 HB5 x0 x1 hr
  go_wp2_with fail
  go_loopw [14, 104] (fun m i wr => ∃ (k r bm n : Nat) (s : St) (f : Int → Option (Int × Int)), k ≤ len2 ∧ n ≤ k ∧ m = .pointer (some ⟨r, 0, none⟩) ∧ i = .int .i64 k ∧ W.heap.size ≤ bm ∧ W.heap.size ≤ r ∧ StOk a0 a1_0 a1_1 s ∧ FOk a0 s f ∧ (0 ≤ s.seq ∧ s.seq ≤ 65535) ∧ Ob wr p bm n a0 a1_0 a1_1 s f ∧ Re wr r a0 a1_0 a1_1 s f ∧ Blk wr W.heap.size 23 #[.int .i64 a1_0, .int .i64 a1_1] ∧ Below W.heap.size W wr) (fun _ i _ => len2 - (intOf i).toNat)
  case atStart => exact ⟨0, r, bm, 0, st0 0, _, Nat.zero_le _, Nat.le_refl _, rfl, rfl, by omega, hrW, StOk.st0 RU.out 0, FOk.st0 _ _, ⟨by decide, by decide⟩, HO6.out, HR6.out, HX6.out, HB6.out⟩
  case round =>
    clear HO6 HR6 HX6 HB6 hbW hrW
    obtain ⟨k, r, bm, n, s, f, hk, hnk, rfl, rfl, hbm, hrW, hs, hf, hq, ho, hre, hx, hb⟩ := hrel
    have HS := Lib.hid hs
    have HF := Lib.hid hf
    have HSQ := Lib.hid hq
    have HO := Lib.hid ho
    have HR := Lib.hid hre
    have HY := Lib.hid hx
    have HB := Lib.hid hb
    have hrp := re_nd hre ho.nd
    have hrx := re_box hre hx
    have hbr := re_mp hre ho.mp
    have hbp := ho.ne
    have hbx2 := ho.mp.blk_ne hx
    clear hs hf hq ho hre hx hb
    by_cases hlt : k < len2
    · obtain ⟨ad, x0, x1, x2, x3, rfl, _, e0, e1, e2, e3, wx0, wx1, wx2, wx3⟩ := elem2 (R.out.below HB.out) hlt
      have hx1 := bounds_i64 wx1
      have hx2 := bounds_u16 wx2
      have hx3 := bounds_u16 wx3
      have HW := Lib.hid (show -9223372036854775808 ≤ x1 ∧ x1 ≤ 9223372036854775807 by omega)
      have HU := Lib.hid (show U16 (x2, x3) from ⟨by dsimp only; omega, by dsimp only; omega⟩)
      clear wx0 wx1 wx2 wx3 hx1 hx2 hx3
      have HO2 := Lib.hid (HO.out.alloc (.cells #[.int .i64 x0, .int .i64 x1, .int .u16 x2, .int .u16 x3] 36))
      have HR2 := Lib.hid (HR.out.alloc (.cells #[.int .i64 x0, .int .i64 x1, .int .u16 x2, .int .u16 x3] 36))
      have HY2 := Lib.hid (HY.out.alloc (.cells #[.int .i64 x0, .int .i64 x1, .int .u16 x2, .int .u16 x3] 36))
      have HX2 := Lib.hid (Blk.new wr 36 #[.int .i64 x0, .int .i64 x1, .int .u16 x2, .int .u16 x3])
      have HB2 := Lib.hid (HB.out.alloc HB.out.size (.cells #[.int .i64 x0, .int .i64 x1, .int .u16 x2, .int .u16 x3] 36))
      have hbx := HY.out.lt
      have hop := HO.out.nd.lt
      have hom := HO.out.mp.lt
      have hor := HR.out.lt
      have HN := Lib.hid (show n < maxLen by unfold maxLen; omega)
      clear HO HR HY HB
      go_upto_block 2 with fail
      clear e0 e1 e2 e3
      generalize wr.alloc (.cells #[.int .i64 x0, .int .i64 x1, .int .u16 x2, .int .u16 x3] 36) = w2 at HO2 HR2 HY2 HX2 HB2 ⊢
      generalize wr.heap.size = bx at HX2 hbx hop hom hor ⊢
      have b1 := HX2.out.cell 1
      have b2 := HX2.out.cell 2
      have b3 := HX2.out.cell 3
      go_cut [14] (fun m wx => ∃ (r bm n : Nat) (s : St) (f : Int → Option (Int × Int)), m = .pointer (some ⟨r, 0, none⟩) ∧ n ≤ k + 1 ∧ W.heap.size ≤ bm ∧ W.heap.size ≤ r ∧ StOk a0 a1_0 a1_1 s ∧ FOk a0 s f ∧ (0 ≤ s.seq ∧ s.seq ≤ 65535) ∧ Ob wx p bm n a0 a1_0 a1_1 s f ∧ Re wx r a0 a1_0 a1_1 s f ∧ Blk wx W.heap.size 23 #[.int .i64 a1_0, .int .i64 a1_1] ∧ Below W.heap.size W wx)
      case first =>
        by_cases k0 : x0 = 0
        · as_aux_lemma =>
          subst k0
          obtain ⟨v, s2, f2, he⟩ : ∃ v s2 f2, hear a0 s f x1 (x2, x3) = (v, s2, f2) := ⟨_, _, _, rfl⟩
          have hst := HS.out.hear (f := f) (r := x1) (m := (x2, x3)) RU.out
          have hft := HF.out.hear (r := x1) HU.out
          have hsq := seq_hear (me := a0) (a := x1) (s := s) (f := f) (m := (x2, x3))
          have CR := Lib.hid (fun w h => rhear_ok r a0 a1_0 a1_1 x1 x2 x3 s f w h RU.out HS.out HF.out HU.out)
          rw [he] at hst hft hsq CR
          have HE := Lib.hid he
          have HS2 := Lib.hid (show StOk a0 a1_0 a1_1 s2 from hst)
          have HF2 := Lib.hid (show FOk a0 s2 f2 from hft)
          have HSQ2 := Lib.hid (show 0 ≤ s2.seq ∧ s2.seq ≤ 65535 from (show s2.seq = s.seq from hsq) ▸ HSQ.out)
          clear he hst hft hsq
          go_wp2_with fail
          refine wp_region_seq [(0, true), (1, true), (2, true), (3, true), (4, true), (6, true), (7, true), (8, true), (9, true), (10, true), (11, true), (12, true), (13, true), (14, true), (5, false), (15, false), (16, true)] (fun w' => w'.cell? ⟨bx, 1, none⟩ = some (.int .i64 x1) ∧ w'.cell? ⟨bx, 2, none⟩ = some (.int .u16 x2) ∧ w'.cell? ⟨bx, 3, none⟩ = some (.int .u16 x3)) (by kernel_rfl) (by kernel_rfl) ⟨HX2.out.drew.cell 1, HX2.out.drew.cell 2, HX2.out.drew.cell 3⟩ (fun hHeld1 => ?_)
          simp only [List.map_cons, List.map_nil, List.getElem?_toArray, List.getElem?_cons_zero, List.getElem?_cons_succ]
          repeat (first | (refine seq_skip (by rfl) ?_; try simp only [Act.put, List.setIfInBounds_toArray, List.set_cons_zero, List.set_cons_succ]) | (refine seq_not (by rfl) (by assumption) ?_; try simp only [Act.put, List.setIfInBounds_toArray, List.set_cons_zero, List.set_cons_succ]) | (refine seq_take (v := ?_) (by rfl) ?_ ?_; rotate_left; (focus ((intro w hSw; (try dsimp only at hSw); go_simp; (try with_reducible rfl)); done)); try simp only [Act.put, List.setIfInBounds_toArray, List.set_cons_zero, List.set_cons_succ]))
          refine seq_do (fun K hK => ?_)
          go_simp
          go_at_call 10
          (with_reducible refine Calls.mono (ob_hear_is HO2.out.drew HN.out HW.out HE.out) ?_)
          rintro e w5 ⟨rfl, ho, hk⟩
          have HO5 := Lib.hid ho
          have HR5 := Lib.hid (HR2.out.drew.kp hk (by omega))
          have HX5 := Lib.hid (blk_kp HX2.out.drew hk (by omega))
          have HY5 := Lib.hid (blk_kp HY2.out.drew hk (by omega))
          have HB5 := Lib.hid (below_kp (below_drew HB2.out) HB2.out.size hk (fun k hk => by omega))
          dsimp only
          refine hK.out _ _ ⟨HX5.out.cell 1, HX5.out.cell 2, HX5.out.cell 3⟩ (fun hHeld2 => ?_)
          clear hK K ho hk HO2 HR2 HX2 HY2 HB2 b1 b2 b3
          repeat (first | (refine seq_skip (by rfl) ?_; try simp only [Act.put, List.setIfInBounds_toArray, List.set_cons_zero, List.set_cons_succ]) | (refine seq_not (by rfl) (by assumption) ?_; try simp only [Act.put, List.setIfInBounds_toArray, List.set_cons_zero, List.set_cons_succ]) | (refine seq_take (v := ?_) (by rfl) ?_ ?_; rotate_left; (focus ((intro w hSw; (try dsimp only at hSw); go_simp; (try with_reducible rfl)); done)); try simp only [Act.put, List.setIfInBounds_toArray, List.set_cons_zero, List.set_cons_succ]))
          refine seq_do (fun K hK => ?_)
          go_simp
          go_at_call 21
          (with_reducible refine Calls.mono (CR.out _ HR5.out) ?_)
          rintro e w6 ⟨rfl, hre, hk⟩
          have HR6 := Lib.hid hre
          have HO6 := Lib.hid (HO5.out.kp hk (by omega) (by omega))
          have HX6 := Lib.hid (blk_kp HX5.out hk (by omega))
          have HY6 := Lib.hid (blk_kp HY5.out hk (by omega))
          have HB6 := Lib.hid (below_kp HB5.out HB5.out.size hk (fun k hk => by omega))
          dsimp only
          refine hK.out _ _ ⟨HX6.out.cell 1, HX6.out.cell 2, HX6.out.cell 3⟩ (fun hHeld3 => ?_)
          clear hK K hre hk
          repeat (first | (refine seq_skip (by rfl) ?_; try simp only [Act.put, List.setIfInBounds_toArray, List.set_cons_zero, List.set_cons_succ]) | (refine seq_not (by rfl) (by assumption) ?_; try simp only [Act.put, List.setIfInBounds_toArray, List.set_cons_zero, List.set_cons_succ]) | (refine seq_take (v := ?_) (by rfl) ?_ ?_; rotate_left; (focus ((intro w hSw; (try dsimp only at hSw); go_simp; (try with_reducible rfl)); done)); try simp only [Act.put, List.setIfInBounds_toArray, List.set_cons_zero, List.set_cons_succ]))
          refine seq_done ?_
          clear hHeld1 hHeld2 hHeld3
          go_wp2
          go_meet
          exact ⟨r, bm, n + 1, s2, f2, rfl, by omega, hbm, hrW, HS2.out, HF2.out, HSQ2.out, HO6.out, HR6.out, HY6.out, HB6.out⟩
        by_cases k1 : x0 = 1
        · as_aux_lemma =>
          subst k1
          obtain ⟨v, s2, f2, he⟩ : ∃ v s2 f2, hear a0 s f x1 (x2, x3) = (v, s2, f2) := ⟨_, _, _, rfl⟩
          have hst := HS.out.hear (f := f) (r := x1) (m := (x2, x3)) RU.out
          have hft := HF.out.hear (r := x1) HU.out
          have hsq := seq_hear (me := a0) (a := x1) (s := s) (f := f) (m := (x2, x3))
          have CR := Lib.hid (fun w h => rhear_ok r a0 a1_0 a1_1 x1 x2 x3 s f w h RU.out HS.out HF.out HU.out)
          rw [he] at hst hft hsq CR
          have HE := Lib.hid he
          have HS2 := Lib.hid (show StOk a0 a1_0 a1_1 s2 from hst)
          have HF2 := Lib.hid (show FOk a0 s2 f2 from hft)
          have HSQ2 := Lib.hid (show 0 ≤ s2.seq ∧ s2.seq ≤ 65535 from (show s2.seq = s.seq from hsq) ▸ HSQ.out)
          clear he hst hft hsq
          go_wp2_with fail
          refine wp_region_seq [(0, true), (1, true), (2, true), (3, true), (4, true), (6, true), (7, true), (8, true), (9, true), (10, true), (11, true), (12, true), (13, true), (14, true), (5, false), (15, false), (16, true)] (fun w' => w'.cell? ⟨bx, 1, none⟩ = some (.int .i64 x1) ∧ w'.cell? ⟨bx, 2, none⟩ = some (.int .u16 x2) ∧ w'.cell? ⟨bx, 3, none⟩ = some (.int .u16 x3)) (by kernel_rfl) (by kernel_rfl) ⟨HX2.out.drew.cell 1, HX2.out.drew.cell 2, HX2.out.drew.cell 3⟩ (fun hHeld1 => ?_)
          simp only [List.map_cons, List.map_nil, List.getElem?_toArray, List.getElem?_cons_zero, List.getElem?_cons_succ]
          repeat (first | (refine seq_skip (by rfl) ?_; try simp only [Act.put, List.setIfInBounds_toArray, List.set_cons_zero, List.set_cons_succ]) | (refine seq_not (by rfl) (by assumption) ?_; try simp only [Act.put, List.setIfInBounds_toArray, List.set_cons_zero, List.set_cons_succ]) | (refine seq_take (v := ?_) (by rfl) ?_ ?_; rotate_left; (focus ((intro w hSw; (try dsimp only at hSw); go_simp; (try with_reducible rfl)); done)); try simp only [Act.put, List.setIfInBounds_toArray, List.set_cons_zero, List.set_cons_succ]))
          refine seq_do (fun K hK => ?_)
          go_simp
          go_at_call 10
          (with_reducible refine Calls.mono (ob_hear_is HO2.out.drew HN.out HW.out HE.out) ?_)
          rintro e w5 ⟨rfl, ho, hk⟩
          have HO5 := Lib.hid ho
          have HR5 := Lib.hid (HR2.out.drew.kp hk (by omega))
          have HX5 := Lib.hid (blk_kp HX2.out.drew hk (by omega))
          have HY5 := Lib.hid (blk_kp HY2.out.drew hk (by omega))
          have HB5 := Lib.hid (below_kp (below_drew HB2.out) HB2.out.size hk (fun k hk => by omega))
          dsimp only
          refine hK.out _ _ ⟨HX5.out.cell 1, HX5.out.cell 2, HX5.out.cell 3⟩ (fun hHeld2 => ?_)
          clear hK K ho hk HO2 HR2 HX2 HY2 HB2 b1 b2 b3
          repeat (first | (refine seq_skip (by rfl) ?_; try simp only [Act.put, List.setIfInBounds_toArray, List.set_cons_zero, List.set_cons_succ]) | (refine seq_not (by rfl) (by assumption) ?_; try simp only [Act.put, List.setIfInBounds_toArray, List.set_cons_zero, List.set_cons_succ]) | (refine seq_take (v := ?_) (by rfl) ?_ ?_; rotate_left; (focus ((intro w hSw; (try dsimp only at hSw); go_simp; (try with_reducible rfl)); done)); try simp only [Act.put, List.setIfInBounds_toArray, List.set_cons_zero, List.set_cons_succ]))
          refine seq_do (fun K hK => ?_)
          go_simp
          go_at_call 21
          (with_reducible refine Calls.mono (CR.out _ HR5.out) ?_)
          rintro e w6 ⟨rfl, hre, hk⟩
          have HR6 := Lib.hid hre
          have HO6 := Lib.hid (HO5.out.kp hk (by omega) (by omega))
          have HX6 := Lib.hid (blk_kp HX5.out hk (by omega))
          have HY6 := Lib.hid (blk_kp HY5.out hk (by omega))
          have HB6 := Lib.hid (below_kp HB5.out HB5.out.size hk (fun k hk => by omega))
          dsimp only
          refine hK.out _ _ ⟨HX6.out.cell 1, HX6.out.cell 2, HX6.out.cell 3⟩ (fun hHeld3 => ?_)
          clear hK K hre hk
          repeat (first | (refine seq_skip (by rfl) ?_; try simp only [Act.put, List.setIfInBounds_toArray, List.set_cons_zero, List.set_cons_succ]) | (refine seq_not (by rfl) (by assumption) ?_; try simp only [Act.put, List.setIfInBounds_toArray, List.set_cons_zero, List.set_cons_succ]) | (refine seq_take (v := ?_) (by rfl) ?_ ?_; rotate_left; (focus ((intro w hSw; (try dsimp only at hSw); go_simp; (try with_reducible rfl)); done)); try simp only [Act.put, List.setIfInBounds_toArray, List.set_cons_zero, List.set_cons_succ]))
          refine seq_done ?_
          clear hHeld1 hHeld2 hHeld3
          go_wp2
          go_meet
          exact ⟨r, bm, n + 1, s2, f2, rfl, by omega, hbm, hrW, HS2.out, HF2.out, HSQ2.out, HO6.out, HR6.out, HY6.out, HB6.out⟩
        by_cases k2 : x0 = 2
        · as_aux_lemma =>
          subst k2
          obtain ⟨v, s2, f2, he⟩ : ∃ v s2 f2, hear a0 s f x1 (x2, x3) = (v, s2, f2) := ⟨_, _, _, rfl⟩
          have hst := HS.out.hear (f := f) (r := x1) (m := (x2, x3)) RU.out
          have hft := HF.out.hear (r := x1) HU.out
          have hsq := seq_hear (me := a0) (a := x1) (s := s) (f := f) (m := (x2, x3))
          have CR := Lib.hid (fun w h => rhear_ok r a0 a1_0 a1_1 x1 x2 x3 s f w h RU.out HS.out HF.out HU.out)
          rw [he] at hst hft hsq CR
          have HE := Lib.hid he
          have HS2 := Lib.hid (show StOk a0 a1_0 a1_1 s2 from hst)
          have HF2 := Lib.hid (show FOk a0 s2 f2 from hft)
          have HSQ2 := Lib.hid (show 0 ≤ s2.seq ∧ s2.seq ≤ 65535 from (show s2.seq = s.seq from hsq) ▸ HSQ.out)
          clear he hst hft hsq
          go_wp2_with fail
          refine wp_region_seq [(0, true), (1, true), (2, true), (3, true), (4, true), (6, true), (7, true), (8, true), (9, true), (10, true), (11, true), (12, true), (13, true), (14, true), (5, false), (15, false), (16, true)] (fun w' => w'.cell? ⟨bx, 1, none⟩ = some (.int .i64 x1) ∧ w'.cell? ⟨bx, 2, none⟩ = some (.int .u16 x2) ∧ w'.cell? ⟨bx, 3, none⟩ = some (.int .u16 x3)) (by kernel_rfl) (by kernel_rfl) ⟨HX2.out.drew.cell 1, HX2.out.drew.cell 2, HX2.out.drew.cell 3⟩ (fun hHeld1 => ?_)
          simp only [List.map_cons, List.map_nil, List.getElem?_toArray, List.getElem?_cons_zero, List.getElem?_cons_succ]
          repeat (first | (refine seq_skip (by rfl) ?_; try simp only [Act.put, List.setIfInBounds_toArray, List.set_cons_zero, List.set_cons_succ]) | (refine seq_not (by rfl) (by assumption) ?_; try simp only [Act.put, List.setIfInBounds_toArray, List.set_cons_zero, List.set_cons_succ]) | (refine seq_take (v := ?_) (by rfl) ?_ ?_; rotate_left; (focus ((intro w hSw; (try dsimp only at hSw); go_simp; (try with_reducible rfl)); done)); try simp only [Act.put, List.setIfInBounds_toArray, List.set_cons_zero, List.set_cons_succ]))
          refine seq_do (fun K hK => ?_)
          go_simp
          go_at_call 10
          (with_reducible refine Calls.mono (ob_hear_is HO2.out.drew HN.out HW.out HE.out) ?_)
          rintro e w5 ⟨rfl, ho, hk⟩
          have HO5 := Lib.hid ho
          have HR5 := Lib.hid (HR2.out.drew.kp hk (by omega))
          have HX5 := Lib.hid (blk_kp HX2.out.drew hk (by omega))
          have HY5 := Lib.hid (blk_kp HY2.out.drew hk (by omega))
          have HB5 := Lib.hid (below_kp (below_drew HB2.out) HB2.out.size hk (fun k hk => by omega))
          dsimp only
          refine hK.out _ _ ⟨HX5.out.cell 1, HX5.out.cell 2, HX5.out.cell 3⟩ (fun hHeld2 => ?_)
          clear hK K ho hk HO2 HR2 HX2 HY2 HB2 b1 b2 b3
          repeat (first | (refine seq_skip (by rfl) ?_; try simp only [Act.put, List.setIfInBounds_toArray, List.set_cons_zero, List.set_cons_succ]) | (refine seq_not (by rfl) (by assumption) ?_; try simp only [Act.put, List.setIfInBounds_toArray, List.set_cons_zero, List.set_cons_succ]) | (refine seq_take (v := ?_) (by rfl) ?_ ?_; rotate_left; (focus ((intro w hSw; (try dsimp only at hSw); go_simp; (try with_reducible rfl)); done)); try simp only [Act.put, List.setIfInBounds_toArray, List.set_cons_zero, List.set_cons_succ]))
          refine seq_do (fun K hK => ?_)
          go_simp
          go_at_call 21
          (with_reducible refine Calls.mono (CR.out _ HR5.out) ?_)
          rintro e w6 ⟨rfl, hre, hk⟩
          have HR6 := Lib.hid hre
          have HO6 := Lib.hid (HO5.out.kp hk (by omega) (by omega))
          have HX6 := Lib.hid (blk_kp HX5.out hk (by omega))
          have HY6 := Lib.hid (blk_kp HY5.out hk (by omega))
          have HB6 := Lib.hid (below_kp HB5.out HB5.out.size hk (fun k hk => by omega))
          dsimp only
          refine hK.out _ _ ⟨HX6.out.cell 1, HX6.out.cell 2, HX6.out.cell 3⟩ (fun hHeld3 => ?_)
          clear hK K hre hk
          repeat (first | (refine seq_skip (by rfl) ?_; try simp only [Act.put, List.setIfInBounds_toArray, List.set_cons_zero, List.set_cons_succ]) | (refine seq_not (by rfl) (by assumption) ?_; try simp only [Act.put, List.setIfInBounds_toArray, List.set_cons_zero, List.set_cons_succ]) | (refine seq_take (v := ?_) (by rfl) ?_ ?_; rotate_left; (focus ((intro w hSw; (try dsimp only at hSw); go_simp; (try with_reducible rfl)); done)); try simp only [Act.put, List.setIfInBounds_toArray, List.set_cons_zero, List.set_cons_succ]))
          refine seq_done ?_
          clear hHeld1 hHeld2 hHeld3
          go_wp2
          go_meet
          exact ⟨r, bm, n + 1, s2, f2, rfl, by omega, hbm, hrW, HS2.out, HF2.out, HSQ2.out, HO6.out, HR6.out, HY6.out, HB6.out⟩
        by_cases k3 : x0 = 3
        · as_aux_lemma =>
          subst k3
          obtain ⟨v, s2, he⟩ : ∃ v s2, beat a0 a1_0 a1_1 s = (v, s2) := ⟨_, _, rfl⟩
          have hst := HS.out.beat RU.out
          have hft := HF.out.beat (t := a1_0) (g := a1_1)
          have hsq := seq_beat (me := a0) (t := a1_0) (g := a1_1) (s := s)
          have CR := Lib.hid (fun w h => rbeat_ok r a0 a1_0 a1_1 s f w h RU.out HS.out)
          rw [he] at hst hft hsq CR
          have HE := Lib.hid he
          have HS2 := Lib.hid (show StOk a0 a1_0 a1_1 s2 from hst)
          have HF2 := Lib.hid (show FOk a0 s2 f from hft)
          have HSQ2 := Lib.hid (show 0 ≤ s2.seq ∧ s2.seq ≤ 65535 from (show s2.seq = s.seq from hsq) ▸ HSQ.out)
          clear he hst hft hsq
          go_wp2_with fail
          refine (ob_beat_is HO2.out RU.out HS.out HE.out).mono ?_
          rintro e w5 ⟨rfl, ho, hk⟩
          have HO5 := Lib.hid ho
          have HR5 := Lib.hid (HR2.out.kp hk (by omega))
          have HY5 := Lib.hid (blk_kp HY2.out hk (by omega))
          have HB5 := Lib.hid (below_kp HB2.out HB2.out.size hk (fun k hk => by omega))
          clear ho hk HO2 HR2 HX2 HY2 HB2 b1 b2 b3
          go_wp2_with fail
          refine (CR.out _ HR5.out).mono ?_
          rintro e w6 ⟨rfl, hre, hk⟩
          have HR6 := Lib.hid hre
          have HO6 := Lib.hid (HO5.out.kp hk (by omega) (by omega))
          have HY6 := Lib.hid (blk_kp HY5.out hk (by omega))
          have HB6 := Lib.hid (below_kp HB5.out HB5.out.size hk (fun k hk => by omega))
          clear hre hk
          go_wp2
          go_meet
          exact ⟨r, bm, n, s2, f, rfl, by omega, hbm, hrW, HS2.out, HF2.out, HSQ2.out, HO6.out, HR6.out, HY6.out, HB6.out⟩
        by_cases k4 : x0 = 4
        · as_aux_lemma =>
          subst k4
          obtain ⟨v, s2, he⟩ : ∃ v s2, beat a0 a1_0 a1_1 s = (v, s2) := ⟨_, _, rfl⟩
          have hst := HS.out.beat RU.out
          have hft := HF.out.beat (t := a1_0) (g := a1_1)
          have hsq := seq_beat (me := a0) (t := a1_0) (g := a1_1) (s := s)
          have CR := Lib.hid (fun w h => rbeat_ok r a0 a1_0 a1_1 s f w h RU.out HS.out)
          rw [he] at hst hft hsq CR
          have HE := Lib.hid he
          have HS2 := Lib.hid (show StOk a0 a1_0 a1_1 s2 from hst)
          have HF2 := Lib.hid (show FOk a0 s2 f from hft)
          have HSQ2 := Lib.hid (show 0 ≤ s2.seq ∧ s2.seq ≤ 65535 from (show s2.seq = s.seq from hsq) ▸ HSQ.out)
          clear he hst hft hsq
          go_wp2_with fail
          refine (ob_beat_is HO2.out RU.out HS.out HE.out).mono ?_
          rintro e w5 ⟨rfl, ho, hk⟩
          have HO5 := Lib.hid ho
          have HR5 := Lib.hid (HR2.out.kp hk (by omega))
          have HY5 := Lib.hid (blk_kp HY2.out hk (by omega))
          have HB5 := Lib.hid (below_kp HB2.out HB2.out.size hk (fun k hk => by omega))
          clear ho hk HO2 HR2 HX2 HY2 HB2 b1 b2 b3
          go_wp2_with fail
          refine (CR.out _ HR5.out).mono ?_
          rintro e w6 ⟨rfl, hre, hk⟩
          have HR6 := Lib.hid hre
          have HO6 := Lib.hid (HO5.out.kp hk (by omega) (by omega))
          have HY6 := Lib.hid (blk_kp HY5.out hk (by omega))
          have HB6 := Lib.hid (below_kp HB5.out HB5.out.size hk (fun k hk => by omega))
          clear hre hk
          go_wp2
          go_meet
          exact ⟨r, bm, n, s2, f, rfl, by omega, hbm, hrW, HS2.out, HF2.out, HSQ2.out, HO6.out, HR6.out, HY6.out, HB6.out⟩
        by_cases k5 : x0 = 5
        · as_aux_lemma =>
          subst k5
          have hm : (s.root == a0) = true ∨ (s.root == a0) = false := by cases (s.root == a0) <;> simp
          rcases hm with hm | hm
          · obtain ⟨sq, hsq⟩ : ∃ sq, IntKind.u16.wrap (s.seq + 1) = sq := ⟨_, rfl⟩
            have CI := Lib.hid (fun w (h : Ob w p bm n a0 a1_0 a1_1 s f) => show Calls Try.prog 16 #[.pointer (some ⟨p, 0, none⟩)] w fun e w' => e = .returned (.tuple #[.agg #[.int .u16 s.boot, .int .u16 sq], .bool true]) ∧ Ob w' p bm n a0 a1_0 a1_1 { s with seq := sq } f ∧ Kp (fun k => k = p ∨ k = bm) w w' from by
              have := ob_issue h
              unfold El.issue at this
              rw [if_pos hm, hsq] at this
              exact this)
            have CN := Lib.hid (fun w => hsq ▸ next02_ok s.seq HSQ.out w)
            have HS2 := Lib.hid (show StOk a0 a1_0 a1_1 { s with seq := sq } from ⟨HS.out.r0, HS.out.r1, HS.out.b0, HS.out.b1, HS.out.q0, HS.out.q1⟩)
            have HF2 := Lib.hid (show FOk a0 { s with seq := sq } f from ⟨HF.out.u, HF.out.k⟩)
            have HSQ2 := Lib.hid (show 0 ≤ sq ∧ sq ≤ 65535 by rw [← hsq, a_u16]; omega)
            have hm2 : (s.root != a0) = false := by simp only [bne, hm]; rfl
            clear hsq
            go_wp2_with fail
            refine (CI.out _ HO2.out).mono ?_
            rintro e w5 ⟨rfl, ho, hk⟩
            have HO5 := Lib.hid (ho.alloc (.cells #[.int .u16 s.boot, .int .u16 sq] 32))
            have HR5 := Lib.hid ((HR2.out.kp hk (by omega)).alloc (.cells #[.int .u16 s.boot, .int .u16 sq] 32))
            have HY5 := Lib.hid ((blk_kp HY2.out hk (by omega)).alloc (.cells #[.int .u16 s.boot, .int .u16 sq] 32))
            have HZ5 := Lib.hid (Blk.new w5 32 #[.int .u16 s.boot, .int .u16 sq])
            have HB5 := Lib.hid ((below_kp HB2.out HB2.out.size hk (fun k hk => by omega)).alloc (Nat.le_trans HB2.out.size hk.size) (.cells #[.int .u16 s.boot, .int .u16 sq] 32))
            have hsz : bx < w5.heap.size := Nat.lt_of_lt_of_le HX2.out.lt hk.size
            clear ho hk HO2 HR2 HX2 HY2 HB2 b1 b2 b3
            go_upto_region 30 with fail
            generalize w5.alloc (.cells #[.int .u16 s.boot, .int .u16 sq] 32) = w6 at HO5 HR5 HY5 HZ5 HB5 ⊢
            generalize w5.heap.size = z at HZ5 hsz ⊢
            have hc := HR5.out.cells
            obtain ⟨c0, c1, c2, c3', c4, c5, c6, c7⟩ := hc
            have f4 := HR5.out.frozen 4
            go_upto_region 34 with (go_at_call 23; (with_reducible refine Calls.mono (CN.out _) ?_); rintro e w7 ⟨rfl, rfl⟩)
            clear c0 c1 c2 c3' c4 c5 c6 c7 f4
            have HR6 := Lib.hid (HR5.out.seq sq)
            have HO6 := Lib.hid (show Ob (w6.setCell ⟨r, 4, none⟩ (.int .u16 sq)) p bm n a0 a1_0 a1_1 { s with seq := sq } f from ⟨HO5.out.nd.far (p := ⟨r, 4, none⟩) (by show p ≠ r; omega) _, HO5.out.mp.far (by omega) _⟩)
            have HY6 := Lib.hid (HY5.out.far (p := ⟨r, 4, none⟩) (by show W.heap.size ≠ r; omega) (.int .u16 sq))
            have HZ6 := Lib.hid (HZ5.out.far (p := ⟨r, 4, none⟩) (by show z ≠ r; omega) (.int .u16 sq))
            have HB6 := Lib.hid (HB5.out.setCell (p := ⟨r, 4, none⟩) hrW (.int .u16 sq))
            clear HO5 HR5 HY5 HZ5 HB5
            generalize w6.setCell ⟨r, 4, none⟩ (.int .u16 sq) = w7 at HO6 HR6 HY6 HZ6 HB6 ⊢
            have hc := HR6.out.cells
            obtain ⟨c0, c1, c2, c3', c4, c5, c6, c7⟩ := hc
            have hz := cells2 HZ6.out
            obtain ⟨z0, z1, _, _⟩ := hz
            go_region
            go_wp2
            go_meet
            exact ⟨r, bm, n, { s with seq := sq }, f, rfl, by omega, hbm, hrW, HS2.out, HF2.out, HSQ2.out, HO6.out.drew, HR6.out.drew, HY6.out.drew, below_drew HB6.out⟩
          · have CI := Lib.hid (fun w (h : Ob w p bm n a0 a1_0 a1_1 s f) => show Calls Try.prog 16 #[.pointer (some ⟨p, 0, none⟩)] w fun e w' => e = .returned (.tuple #[.agg #[.int .u16 0, .int .u16 0], .bool false]) ∧ Ob w' p bm n a0 a1_0 a1_1 s f ∧ Kp (fun k => k = p ∨ k = bm) w w' from by
              have := ob_issue h
              unfold El.issue at this
              rw [if_neg (by rw [hm]; simp)] at this
              exact this)
            have hm2 : (s.root != a0) = true := by simp only [bne, hm]; rfl
            go_wp2_with fail
            refine (CI.out _ HO2.out).mono ?_
            rintro e w5 ⟨rfl, ho, hk⟩
            have HO5 := Lib.hid (ho.alloc (.cells #[.int .u16 0, .int .u16 0] 32))
            have HR5 := Lib.hid ((HR2.out.kp hk (by omega)).alloc (.cells #[.int .u16 0, .int .u16 0] 32))
            have HY5 := Lib.hid ((blk_kp HY2.out hk (by omega)).alloc (.cells #[.int .u16 0, .int .u16 0] 32))
            have HB5 := Lib.hid ((below_kp HB2.out HB2.out.size hk (fun k hk => by omega)).alloc (Nat.le_trans HB2.out.size hk.size) (.cells #[.int .u16 0, .int .u16 0] 32))
            clear ho hk HO2 HR2 HX2 HY2 HB2 b1 b2 b3
            have c5 := HR5.out.cells.2.2.2.2.2.1
            go_wp2
            go_meet
            exact ⟨r, bm, n, s, f, rfl, by omega, hbm, hrW, HS.out, HF.out, HSQ.out, HO5.out, HR5.out, HY5.out, HB5.out⟩
        by_cases k6 : x0 = 6
        · as_aux_lemma =>
          subst k6
          go_wp2_with fail
          refine (ob_boot x2 HO2.out).mono ?_
          rintro e w5 ⟨rfl, bm2, ho, hbm2, hk⟩
          have HO5 := Lib.hid ho
          have HX5 := Lib.hid (blk_kp HX2.out hk (by omega))
          have HY5 := Lib.hid (blk_kp HY2.out hk (by omega))
          have HB5 := Lib.hid (below_kp HB2.out HB2.out.size hk (fun k hk => by omega))
          have hs2 := HB2.out.size
          clear ho hk HO2 HR2 HX2 HY2 HB2 b1 b2 b3
          have b2 := HX5.out.cell 2
          have y0 := HY5.out.cell 0
          have y1 := HY5.out.cell 1
          go_wp2_with fail
          refine (rnew_ok a0 a1_0 a1_1 x2 _).mono ?_
          rintro e w6 ⟨r2, rfl, hre, hr2, hb⟩
          have HO6 := Lib.hid (HO5.out.below hb)
          have HR6 := Lib.hid hre
          have HY6 := Lib.hid (HY5.out.keeps hb)
          have HB6 := Lib.hid (HB5.out.trans (hb.mono HB5.out.size))
          have hs5 := HB5.out.size
          clear hre hb y0 y1 b2
          go_wp2
          go_meet
          exact ⟨r2, bm2, 0, _, _, rfl, by omega, by omega, by omega, StOk.st0 RU.out x2, FOk.st0 _ _, ⟨Int.le_refl 0, (by show (0 : Int) ≤ 65535; decide)⟩, HO6.out, HR6.out, HY6.out, HB6.out⟩
        have k0b : (x0 == 0) = false := by simpa using k0
        have k1b : (x0 == 1) = false := by simpa using k1
        have k2b : (x0 == 2) = false := by simpa using k2
        have k3b : (x0 == 3) = false := by simpa using k3
        have k4b : (x0 == 4) = false := by simpa using k4
        have k5b : (x0 == 5) = false := by simpa using k5
        have k6b : (x0 == 6) = false := by simpa using k6
        clear k0 k1 k2 k3 k4 k5 k6
        go_wp2
        go_meet
        exact ⟨r, bm, n, s, f, rfl, by omega, hbm, hrW, HS.out, HF.out, HSQ.out, HO2.out, HR2.out, HY2.out, HB2.out⟩
      case rest =>
        clear HO2 HR2 HY2 HX2 HB2 HN HF HSQ b1 b2 b3 hop hom hor hbx hnk hbm hrW hrp hrx hbr hbp hbx2 HS HU HW
        obtain ⟨r, bm, n, s, f, rfl, hnk, hbm, hrW, hs, hf, hq, ho, hre, hx, hb⟩ := hcut
        obtain ⟨v0, v1, v, he⟩ : ∃ v0 v1 v, El.mark a0 s f = ((v0, v1), v) := ⟨_, _, _, rfl⟩
        have CM := Lib.hid (fun w (h : Ob w p bm n a0 a1_0 a1_1 s f) => show Calls Try.prog 17 #[.pointer (some ⟨p, 0, none⟩)] w fun e w' => e = .returned (.tuple #[.agg #[.int .u16 v0, .int .u16 v1], .bool v]) ∧ Ob w' p bm n a0 a1_0 a1_1 s f ∧ Below w.heap.size w w' from by have := ob_mark h RU.out hs; rw [he] at this; exact this)
        have CR := Lib.hid (fun w (h : Re w r a0 a1_0 a1_1 s f) => show Calls Try.prog 24 #[.pointer (some ⟨r, 0, none⟩)] w fun e w' => e = .returned (.tuple #[.int .u16 v0, .int .u16 v1, .bool v]) ∧ Below w.heap.size w w' from by have := rmark_ok r a0 a1_0 a1_1 s f w h RU.out hs; rw [he] at this; exact this)
        have HS := Lib.hid hs
        have HF := Lib.hid hf
        have HSQ := Lib.hid hq
        have HO2 := Lib.hid ho
        have HR2 := Lib.hid hre
        have HY2 := Lib.hid hx
        have HB2 := Lib.hid hb
        clear he hs hf hq ho hre hx hb
        go_wp2_with fail
        refine (CM.out _ HO2.out).mono ?_
        rintro e w5 ⟨rfl, ho, hk⟩
        have HO5 := Lib.hid (ho.alloc (.cells #[.int .u16 v0, .int .u16 v1] 32))
        have HR5 := Lib.hid ((HR2.out.keeps hk).alloc (.cells #[.int .u16 v0, .int .u16 v1] 32))
        have HY5 := Lib.hid ((HY2.out.keeps hk).alloc (.cells #[.int .u16 v0, .int .u16 v1] 32))
        have HZ5 := Lib.hid (Blk.new w5 32 #[.int .u16 v0, .int .u16 v1])
        have HB5 := Lib.hid ((HB2.out.trans (hk.mono HB2.out.size)).alloc (Nat.le_trans HB2.out.size hk.size) (.cells #[.int .u16 v0, .int .u16 v1] 32))
        clear ho hk HO2 HR2 HY2 HB2
        go_wp2_with fail
        refine (CR.out _ HR5.out).mono ?_
        rintro e w6 ⟨rfl, hk⟩
        have HO6 := Lib.hid (HO5.out.below hk)
        have HR6 := Lib.hid (HR5.out.keeps hk)
        have HY6 := Lib.hid (HY5.out.keeps hk)
        have HZ6 := Lib.hid (HZ5.out.keeps hk)
        have HB6 := Lib.hid (HB5.out.trans (hk.mono HB5.out.size))
        clear hk HO5 HR5 HY5 HZ5 HB5
        generalize w5.heap.size = z at HZ6 ⊢
        obtain ⟨b, hmb⟩ : ∃ b, (s.root == a0) = b := ⟨_, rfl⟩
        have CI := Lib.hid (fun w (h : Ob w p bm n a0 a1_0 a1_1 s f) => show Calls Try.prog 14 #[.pointer (some ⟨p, 0, none⟩)] w fun e w' => e = .returned (.bool b) ∧ w' = w.drew from hmb ▸ ob_mine h)
        go_wp2_with fail
        refine wp_region_seq [(0, true), (2, true), (3, true), (4, true), (5, true), (1, false), (6, true), (7, true), (8, true), (10, true), (11, true), (12, true), (13, true), (14, true), (15, true), (9, false), (16, true), (17, true), (18, true), (19, true), (20, true), (21, true), (22, true), (23, true), (24, true), (25, true), (26, true), (27, true), (28, true), (29, true), (30, true), (31, true), (32, true), (33, true), (34, true)] (fun w' => w'.cell? ⟨r, 5, none⟩ = some (.int .i64 s.root) ∧ w'.cell? ⟨z, 0, none⟩ = some (.int .u16 v0) ∧ w'.cell? ⟨z, 1, none⟩ = some (.int .u16 v1)) (by kernel_rfl) (by kernel_rfl) ⟨HR6.out.drew.cells.2.2.2.2.2.1, HZ6.out.drew.cell 0, HZ6.out.drew.cell 1⟩ (fun hHeld1 => ?_)
        simp only [List.map_cons, List.map_nil, List.getElem?_toArray, List.getElem?_cons_zero, List.getElem?_cons_succ]
        repeat (first | (refine seq_skip (by rfl) ?_; try simp only [Act.put, List.setIfInBounds_toArray, List.set_cons_zero, List.set_cons_succ]) | (refine seq_not (by rfl) (by assumption) ?_; try simp only [Act.put, List.setIfInBounds_toArray, List.set_cons_zero, List.set_cons_succ]) | (refine seq_take (v := ?_) (by rfl) ?_ ?_; rotate_left; (focus ((intro w hSw; (try dsimp only at hSw); go_simp; (try with_reducible rfl)); done)); try simp only [Act.put, List.setIfInBounds_toArray, List.set_cons_zero, List.set_cons_succ]))
        refine seq_do (fun K hK => ?_)
        go_simp
        go_at_call 15
        (with_reducible refine Calls.mono (ob_root HO6.out.drew) ?_)
        rintro e w7 ⟨rfl, rfl⟩
        dsimp only
        refine hK.out _ _ ⟨HR6.out.drew.cells.2.2.2.2.2.1, HZ6.out.drew.cell 0, HZ6.out.drew.cell 1⟩ (fun hHeld2 => ?_)
        clear hK K
        repeat (first | (refine seq_skip (by rfl) ?_; try simp only [Act.put, List.setIfInBounds_toArray, List.set_cons_zero, List.set_cons_succ]) | (refine seq_not (by rfl) (by assumption) ?_; try simp only [Act.put, List.setIfInBounds_toArray, List.set_cons_zero, List.set_cons_succ]) | (refine seq_take (v := ?_) (by rfl) ?_ ?_; rotate_left; (focus ((intro w hSw; (try dsimp only at hSw); go_simp; (try with_reducible rfl)); done)); try simp only [Act.put, List.setIfInBounds_toArray, List.set_cons_zero, List.set_cons_succ]))
        refine seq_do (fun K hK => ?_)
        go_simp
        go_at_call 14
        (with_reducible refine Calls.mono (CI.out _ HO6.out.drew) ?_)
        rintro e w7 ⟨rfl, rfl⟩
        dsimp only
        refine hK.out _ _ ⟨HR6.out.drew.drew.cells.2.2.2.2.2.1, HZ6.out.drew.drew.cell 0, HZ6.out.drew.drew.cell 1⟩ (fun hHeld3 => ?_)
        clear hK K
        repeat (first | (refine seq_skip (by rfl) ?_; try simp only [Act.put, List.setIfInBounds_toArray, List.set_cons_zero, List.set_cons_succ]) | (refine seq_not (by rfl) (by assumption) ?_; try simp only [Act.put, List.setIfInBounds_toArray, List.set_cons_zero, List.set_cons_succ]) | (refine seq_take (v := ?_) (by rfl) ?_ ?_; rotate_left; (focus ((intro w hSw; (try dsimp only at hSw); go_simp; (try with_reducible rfl)); done)); try simp only [Act.put, List.setIfInBounds_toArray, List.set_cons_zero, List.set_cons_succ]))
        refine seq_done ?_
        clear hHeld1 hHeld2 hHeld3
        go_wp2
        go_roundw
        case rel => exact ⟨k + 1, r, bm, n, s, f, by omega, hnk, rfl, by go_num, hbm, hrW, HS.out, HF.out, HSQ.out, HO6.out.drew.drew, HR6.out.drew.drew, HY6.out.drew.drew, below_drew (below_drew HB6.out)⟩
        case measure => simp [intOf]; omega
    · have hx := cells2 HY.out
      obtain ⟨y0, y1, _, _⟩ := hx
      go_wp2_with (go_at_call 19; (with_reducible refine Calls.mono (GO.out _) ?_); rintro e w6 ⟨rfl, hb⟩; have HB6 := Lib.hid (HB.out.trans (hb.mono HB.out.size)); clear hb)
      go_ret
      exact ⟨rfl, HB6.out⟩
end Go.Proofs.Ythnnejflgbminaa.ElectDoesW
