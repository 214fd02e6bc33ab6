/- In every script each answer, the level, the parent, and what is told, are the document's; what can't be is refused; a nil node. No condition. -/
import Derived.Test.YteeeolagnndcaacLev2
import Derived.Test.YteeeolagnndcaacLf
namespace Go.Proofs.Yteeeolagnndcaac.LevelDoesW
open Go.RowKit Go.Proofs.Yteeeolagnndcaac.Bk Go.Proofs.Yteeeolagnndcaac.Rw Go.Proofs.Yteeeolagnndcaac.Ow Go.Proofs.Yteeeolagnndcaac.Kp Go.Proofs.Yteeeolagnndcaac.Sq Go.Proofs.Yteeeolagnndcaac.Frm Go.Proofs.Yteeeolagnndcaac.Lev

theorem elem1 {w : World} {A : Option Addr} {len : Nat} {vs : List (List Value)} (h : Lf.RowsAt w [.b, .i .i64, .i .i64] A len vs) {k : Nat} (hk : k < len) :
    ∃ (ad : Addr) (x0 : Bool) (x1 : Int) (x2 : Int), A = some ad ∧ vs[k]? = some [.bool x0, .int .i64 x1, .int .i64 x2] ∧ w.cell? (ad.add (k * 3)) = some (.bool x0) ∧ w.cell? ⟨(ad.add (k * 3)).block, (ad.add (k * 3)).off + 1, none⟩ = some (.int .i64 x1) ∧ w.cell? ⟨(ad.add (k * 3)).block, (ad.add (k * 3)).off + 2, none⟩ = some (.int .i64 x2) ∧ (Lit.int .i64 x1).wf = true ∧ (Lit.int .i64 x2).wf = true := by
  obtain ⟨ad, c, rfl, hv, hL, hc0, hcj⟩ := h.elem hk
  obtain ⟨u0, g0, q0, ⟨x0, e0⟩, L0⟩ := hL.cons
  obtain ⟨u1, g1, q1, ⟨x1, e1, f1⟩, L1⟩ := L0.cons
  obtain ⟨u2, g2, q2, ⟨x2, e2, f2⟩, L2⟩ := L1.cons
  have n_ := L2.nil
  have hcc : c = [.bool x0, .int .i64 x1, .int .i64 x2] := by rw [q0, e0, q1, e1, q2, e2, n_]
  rw [hcc] at hv hc0 hcj
  exact ⟨ad, x0, x1, x2, rfl, hv, hc0 _ rfl, hcj 0 _ rfl, hcj 1 _ rfl, f1, f2⟩

set_option maxRecDepth 100000 in
set_option maxHeartbeats 2000000 in
set_option linter.unusedVariables false in
theorem walk (a0 : Int) (a1 : Option Addr) (len1 cap1 : Nat) (z1 : List (List Value)) (W : World) (w0 : (Lit.int .i64 a0).wf = true) (l1 : len1 ≤ cap1) (m1 : cap1 ≤ maxLen) (w1 : Lf.RowsAt W [.b, .i .i64, .i .i64] a1 len1 z1) :
    Calls Try.prog 4 #[.int .i64 a0, .slice a1 len1 cap1] W fun e w' => e = .returned (.bool true) ∧ Below W.heap.size W w' := by
  have hl8 : len1 ≤ 9223372036854775807 := by unfold maxLen at m1; omega
  have R := Lib.hid w1
  clear w0 w1 m1
  by_cases c3 : (200 : Int) < len1
  · go_enter Try.func4, Try.ntmps4
    go_wp2_with (go_at_call 6; refine (alive_ok _).mono ?_; rintro e w1 ⟨rfl, hb⟩; have HB := Lib.hid hb; clear hb)
    go_ret
    exact ⟨rfl, HB.out⟩
  by_cases c1 : a0 < 0 ∨ 63 < a0
  · have N0 := Lib.hid (fun w => new_no a0 w c1)
    have c0 : a0 < 0 ∨ (¬ a0 < 0 ∧ 63 < a0) := by omega
    clear c1
    rcases c0 with c0 | ⟨c0, c1⟩
    all_goals
      go_enter Try.func4, Try.ntmps4
      go_wp2_with (first
        | (go_at_call 6; with_reducible refine Calls.mono (alive_ok _) ?_; rintro e w1 ⟨rfl, hb⟩; have HB := Lib.hid hb; clear hb)
        | (go_at_call 7; with_reducible refine Calls.mono (N0.out _) ?_; rintro e w1 ⟨rfl, rfl⟩)
        | (go_at_call 12; with_reducible refine Calls.mono (lose_nil _) ?_; rintro e w1 ⟨rfl, rfl⟩)
        | (go_at_call 13; with_reducible refine Calls.mono (tell_nil _ _) ?_; rintro e w2 ⟨rfl, hb⟩; have HB2 := Lib.hid (HB.out.trans (hb.mono HB.out.size)); have HB3 := Lib.hid (HB2.out.alloc HB2.out.size (.cells #[.int .i64 0, .int .i64 0] 30)); clear hb)
        | (go_at_call 8; with_reducible refine Calls.mono (level_nil _) ?_; rintro e w1 ⟨rfl, rfl⟩)
        | (go_at_call 10; with_reducible refine Calls.mono (parent_nil _) ?_; rintro e w1 ⟨rfl, rfl⟩)
        | (go_at_call 9; with_reducible refine Calls.mono (hear_nil _ _ _) ?_; rintro e w4 ⟨rfl, hb⟩; have HB4 := Lib.hid (HB3.out.trans (hb.mono HB3.out.size)); clear hb))
      go_ret
      exact ⟨rfl, HB4.out⟩
  have c2 : 0 ≤ a0 ∧ a0 ≤ 63 := by omega
  obtain ⟨c4, c5⟩ := c2
  clear c1
  go_enter Try.func4, Try.ntmps4
  go_wp2_with fail
  refine (alive_ok _).mono ?_
  rintro e w1 ⟨rfl, hb⟩
  have B1 := Lib.hid hb
  clear hb
  go_wp2_with fail
  refine (new_ok a0 _ c4 c5).mono ?_
  rintro e w2 ⟨rfl, rfl⟩
  have hl0 : Lv (w1.alloc (.cells #[.int .i64 a0, .int .i64 (-1), .int .i64 (-1)] 47)) w1.heap.size a0 (-1) (-1) := Blk.new _ _ _
  have hb0 : Below W.heap.size W (w1.alloc (.cells #[.int .i64 a0, .int .i64 (-1), .int .i64 (-1)] 47)) := B1.out.alloc B1.out.size _
  have hp : W.heap.size ≤ w1.heap.size := B1.out.size
  generalize w1.alloc (.cells #[.int .i64 a0, .int .i64 (-1), .int .i64 (-1)] 47) = w2 at hl0 hb0
  generalize w1.heap.size = p at hl0 hp
  have HL := Lib.hid hl0
  have HB := Lib.hid hb0
  clear hl0 hb0 B1
  go_wp2_with (first
    | (go_at_call 12; with_reducible refine Calls.mono (lose_nil _) ?_; rintro e w1 ⟨rfl, rfl⟩)
    | (go_at_call 13; with_reducible refine Calls.mono (tell_nil _ _) ?_; rintro e w3 ⟨rfl, hb⟩; have HB3 := Lib.hid ((HB.out.trans (hb.mono HB.out.size)).alloc (Nat.le_trans HB.out.size hb.size) (.cells #[.int .i64 0, .int .i64 0] 30)); have HL3 := Lib.hid ((HL.out.keeps hb).alloc (.cells #[.int .i64 0, .int .i64 0] 30)); clear hb)
    | (go_at_call 8; with_reducible refine Calls.mono (level_nil _) ?_; rintro e w1 ⟨rfl, rfl⟩)
    | (go_at_call 10; with_reducible refine Calls.mono (parent_nil _) ?_; rintro e w1 ⟨rfl, rfl⟩)
    | (go_at_call 9; with_reducible refine Calls.mono (hear_nil _ _ _) ?_; rintro e w4 ⟨rfl, hb⟩; have HB4 := Lib.hid (HB3.out.trans (hb.mono HB3.out.size)); have HL4 := Lib.hid (HL3.out.keeps hb); clear hb)
    | (go_at_call 14; with_reducible refine Calls.mono (rnew_ok _ _) ?_; rintro e w5 ⟨rfl, rfl⟩; have HR5 := Lib.hid (show Rl _ _ _ _ _ from Blk.new w4 44 #[.int .i64 a0, .int .i64 (-1), .int .i64 (-1)]); have HL5 := Lib.hid (HL4.out.alloc (.cells #[.int .i64 a0, .int .i64 (-1), .int .i64 (-1)] 44)); have HB5 := Lib.hid (HB4.out.alloc HB4.out.size (.cells #[.int .i64 a0, .int .i64 (-1), .int .i64 (-1)] 44))))
  go_loopw [10, 66] (fun m i wr => ∃ (k r : Nat) (l q : Int), k ≤ len1 ∧ i = .int .i64 k ∧ m = .pointer (some ⟨r, 0, none⟩) ∧ W.heap.size ≤ r ∧ Lq l q ∧ Lv wr p a0 l q ∧ Rl wr r a0 l q ∧ Below W.heap.size W wr) (fun _ i _ => len1 - (intOf i).toNat)
  case atStart => exact ⟨0, _, -1, -1, Nat.zero_le _, rfl, rfl, HB4.out.size, .inl ⟨rfl, rfl⟩, HL5.out, HR5.out, HB5.out⟩
  case round =>
    clear HL HB HL3 HB3 HL4 HB4 HL5 HB5 HR5
    obtain ⟨k, r, l, q, hk, rfl, rfl, hr, hI, hl, hrl, hb⟩ := hrel
    have HL := Lib.hid hl
    have HR := Lib.hid hrl
    have HB := Lib.hid hb
    have HI := Lib.hid hI
    have hrp : r ≠ p := fun e => absurd (Blk.ne_ hrl hl (by decide)) (by simp [e])
    clear hl hrl hb hI
    by_cases hlt : k < len1
    · obtain ⟨ad, b, x, y, rfl, _, e0, e1, e2, wx, wy⟩ := elem1 (R.out.below HB.out) hlt
      clear wx wy
      have HL2 := Lib.hid (HL.out.alloc (.cells #[.bool b, .int .i64 x, .int .i64 y] 41))
      have HR2 := Lib.hid (HR.out.alloc (.cells #[.bool b, .int .i64 x, .int .i64 y] 41))
      have HX2 := Lib.hid (Blk.new wr 41 #[.bool b, .int .i64 x, .int .i64 y])
      have HB2 := Lib.hid (HB.out.alloc HB.out.size (.cells #[.bool b, .int .i64 x, .int .i64 y] 41))
      have hbx := HB.out.size
      have hbp := HL.out.lt
      have hbr := HR.out.lt
      clear HL HR HB
      cases b with
      | true =>
        go_wp2_with fail
        refine (lose_ok p a0 l q _ HL2.out).mono ?_
        rintro e w5 ⟨rfl, hl, hk⟩
        have HL3 := Lib.hid hl
        have HB3 := Lib.hid (below_kp HB2.out HB2.out.size hk (fun k hk => by omega))
        clear hl hk HL2 HR2 HX2 HB2 HI e0 e1 e2 hbx hbp hbr hrp
        go_wp2_with fail
        refine (rnew_ok _ _).mono ?_
        rintro e w6 ⟨rfl, rfl⟩
        have hbx := HB3.out.size
        obtain ⟨l2, hl2⟩ : ∃ l2 : Int, l2 = -1 := ⟨_, rfl⟩
        obtain ⟨q2, hq2⟩ : ∃ q2 : Int, q2 = -1 := ⟨_, rfl⟩
        have HI := Lib.hid (show Lq l2 q2 from .inl ⟨hl2, hq2⟩)
        have HL : Hid (Lv (w5.alloc (.cells #[.int .i64 a0, .int .i64 (-1), .int .i64 (-1)] 44)) p a0 l2 q2) := by rw [hl2, hq2]; exact Lib.hid (HL3.out.alloc _)
        have HR : Hid (Rl (w5.alloc (.cells #[.int .i64 a0, .int .i64 (-1), .int .i64 (-1)] 44)) w5.heap.size a0 l2 q2) := by rw [hl2, hq2]; exact Lib.hid (Blk.new _ _ _)
        have HB := Lib.hid (HB3.out.alloc HB3.out.size (.cells #[.int .i64 a0, .int .i64 (-1), .int .i64 (-1)] 44))
        clear hl2 hq2 HL3 HB3
        generalize w5.alloc (.cells #[.int .i64 a0, .int .i64 (-1), .int .i64 (-1)] 44) = w6 at HL HR HB ⊢
        generalize w5.heap.size = r2 at HR hbx ⊢
        by_cases hl0 : 0 ≤ l2
        · skip
          have hld : decide (0 ≤ l2) = true := by simp; try omega
          go_wp2_with fail
          refine (tell_yes p a0 l2 q2 _ HL.out (by omega)).mono ?_
          rintro e w6 ⟨rfl, hb⟩
          have HL6 := Lib.hid (HL.out.keeps hb)
          have HR6 := Lib.hid (HR.out.keeps hb)
          have HB6 := Lib.hid (HB.out.trans (hb.mono HB.out.size))
          clear hb
          have HL7 := Lib.hid (HL6.out.alloc (.cells #[.int .i64 (a0), .int .i64 (l2)] 30))
          have HR7 := Lib.hid (HR6.out.alloc (.cells #[.int .i64 (a0), .int .i64 (l2)] 30))
          have HB7 := Lib.hid (HB6.out.alloc HB6.out.size (.cells #[.int .i64 (a0), .int .i64 (l2)] 30))
          have HX7 := Lib.hid (Blk.new w6 30 #[.int .i64 (a0), .int .i64 (l2)])
          go_wp2_with fail
          refine (tell_self p a0 l2 q2 _ HL7.out).mono ?_
          rintro e w8 ⟨rfl, hb⟩
          have HL8 := Lib.hid (HL7.out.keeps hb)
          have HR8 := Lib.hid (HR7.out.keeps hb)
          have HB8 := Lib.hid (HB7.out.trans (hb.mono HB7.out.size))
          have HX8 := Lib.hid (HX7.out.keeps hb)
          clear hb
          go_wp2_with fail
          have HL9 := Lib.hid (HL8.out.alloc (.cells #[.int .i64 a0, .int .i64 0] 30)).drew
          have HR9 := Lib.hid (HR8.out.alloc (.cells #[.int .i64 a0, .int .i64 0] 30)).drew
          have HB9 := Lib.hid (below_drew_ (HB8.out.alloc HB8.out.size (.cells #[.int .i64 a0, .int .i64 0] 30)))
          have HX9 := Lib.hid (HX8.out.alloc (.cells #[.int .i64 a0, .int .i64 0] 30)).drew
          have HY9 := Lib.hid (Blk.new w8 30 #[.int .i64 a0, .int .i64 0]).drew
          clear HL8 HR8 HB8 HX8 HL7 HR7 HB7 HX7 HL6 HR6 HB6 HL HR HB
          refine wp_region_seq [(0, true), (2, true), (3, true), (4, true), (5, true), (1, false), (6, true), (7, true), (8, true), (10, true), (11, true), (12, true), (13, true), (9, false), (14, true), (15, true), (16, true), (17, true), (18, true), (19, true), (20, true), (21, true), (22, true), (23, true), (24, true), (25, true), (26, true), (27, true), (28, true), (29, true), (30, true), (31, true), (32, true), (33, true), (34, true), (35, true), (36, true), (37, true), (38, true), (39, true), (40, true), (41, true), (42, true), (43, true), (44, true), (45, true), (46, true), (47, true), (48, true), (49, true), (50, true), (51, true), (52, true), (53, true), (54, true), (55, true), (56, true)] (fun w' => w'.cell? ⟨r2, 1, none⟩ = some (.int .i64 l2) ∧ w'.cell? ⟨r2, 2, none⟩ = some (.int .i64 q2) ∧ w'.cell? ⟨w6.heap.size, 0, none⟩ = some (.int .i64 (a0)) ∧ w'.cell? ⟨w6.heap.size, 1, none⟩ = some (.int .i64 (l2)) ∧ w'.cell? ⟨w8.heap.size, 0, none⟩ = some (.int .i64 a0) ∧ w'.cell? ⟨w8.heap.size, 1, none⟩ = some (.int .i64 0)) (by kernel_rfl) (by kernel_rfl) ⟨HR9.out.cell 1, HR9.out.cell 2, HX9.out.cell 0, HX9.out.cell 1, HY9.out.cell 0, HY9.out.cell 1⟩ (fun hHeld => ?_)
          simp only [List.map_cons, List.map_nil, List.getElem?_toArray, List.getElem?_cons_zero, List.getElem?_cons_succ]
          repeat (first | (first | (refine seq_skip (by rfl) ?_; try simp only [Act.put, List.setIfInBounds_toArray, List.set_cons_zero, List.set_cons_succ]) | (refine seq_not (by rfl) (by assumption) ?_; try simp only [Act.put, List.setIfInBounds_toArray, List.set_cons_zero, List.set_cons_succ]) | (refine seq_take (v := ?_) (by rfl) ?_ ?_; rotate_left; (focus ((intro w hSw; (try dsimp only at hSw); go_simp; (try with_reducible rfl)); done)); try simp only [Act.put, List.setIfInBounds_toArray, List.set_cons_zero, List.set_cons_succ])) | (refine seq_do (fun K hK => ?_); go_simp; go_at_call 8; with_reducible refine Calls.mono (level_ok p a0 l2 q2 _ HL9.out) ?_; rintro e w' ⟨rfl, rfl⟩; dsimp only; refine hK.out _ _ (by assumption) (fun _ => ?_); clear hK K) | (refine seq_do (fun K hK => ?_); go_simp; go_at_call 10; with_reducible refine Calls.mono (parent_ok p a0 l2 q2 _ HL9.out) ?_; rintro e w' ⟨rfl, rfl⟩; dsimp only; refine hK.out _ _ (by assumption) (fun _ => ?_); clear hK K))
          refine seq_done ?_
          clear hHeld
          go_wp2
          go_roundw
          case rel => exact ⟨k + 1, r2, l2, q2, hlt, by go_num, rfl, hbx, HI.out, HL9.out, HR9.out, HB9.out⟩
          case measure => simp [intOf]; omega
        · have hl1 : l2 < 0 := by omega
          clear hl0
          have hld : decide (0 ≤ l2) = false := by simp; try omega
          go_wp2_with fail
          refine (tell_no p a0 l2 q2 _ HL.out (by omega)).mono ?_
          rintro e w6 ⟨rfl, hb⟩
          have HL6 := Lib.hid (HL.out.keeps hb)
          have HR6 := Lib.hid (HR.out.keeps hb)
          have HB6 := Lib.hid (HB.out.trans (hb.mono HB.out.size))
          clear hb
          have HL7 := Lib.hid (HL6.out.alloc (.cells #[.int .i64 (0), .int .i64 (0)] 30))
          have HR7 := Lib.hid (HR6.out.alloc (.cells #[.int .i64 (0), .int .i64 (0)] 30))
          have HB7 := Lib.hid (HB6.out.alloc HB6.out.size (.cells #[.int .i64 (0), .int .i64 (0)] 30))
          have HX7 := Lib.hid (Blk.new w6 30 #[.int .i64 (0), .int .i64 (0)])
          go_wp2_with fail
          refine (tell_self p a0 l2 q2 _ HL7.out).mono ?_
          rintro e w8 ⟨rfl, hb⟩
          have HL8 := Lib.hid (HL7.out.keeps hb)
          have HR8 := Lib.hid (HR7.out.keeps hb)
          have HB8 := Lib.hid (HB7.out.trans (hb.mono HB7.out.size))
          have HX8 := Lib.hid (HX7.out.keeps hb)
          clear hb
          go_wp2_with fail
          have HL9 := Lib.hid (HL8.out.alloc (.cells #[.int .i64 a0, .int .i64 0] 30)).drew
          have HR9 := Lib.hid (HR8.out.alloc (.cells #[.int .i64 a0, .int .i64 0] 30)).drew
          have HB9 := Lib.hid (below_drew_ (HB8.out.alloc HB8.out.size (.cells #[.int .i64 a0, .int .i64 0] 30)))
          have HX9 := Lib.hid (HX8.out.alloc (.cells #[.int .i64 a0, .int .i64 0] 30)).drew
          have HY9 := Lib.hid (Blk.new w8 30 #[.int .i64 a0, .int .i64 0]).drew
          clear HL8 HR8 HB8 HX8 HL7 HR7 HB7 HX7 HL6 HR6 HB6 HL HR HB
          refine wp_region_seq [(0, true), (2, true), (3, true), (4, true), (5, true), (1, false), (6, true), (7, true), (8, true), (10, true), (11, true), (12, true), (13, true), (9, false), (14, true), (15, true), (16, true), (17, true), (18, true), (19, true), (20, true), (21, true), (22, true), (23, true), (24, true), (25, true), (26, true), (27, true), (28, true), (29, true), (30, true), (31, true), (32, true), (33, true), (34, true), (35, true), (36, true), (37, true), (38, true), (39, true), (40, true), (41, true), (42, true), (43, true), (44, true), (45, true), (46, true), (47, true), (48, true), (49, true), (50, true), (51, true), (52, true), (53, true), (54, true), (55, true), (56, true)] (fun w' => w'.cell? ⟨r2, 1, none⟩ = some (.int .i64 l2) ∧ w'.cell? ⟨r2, 2, none⟩ = some (.int .i64 q2) ∧ w'.cell? ⟨w6.heap.size, 0, none⟩ = some (.int .i64 (0)) ∧ w'.cell? ⟨w6.heap.size, 1, none⟩ = some (.int .i64 (0)) ∧ w'.cell? ⟨w8.heap.size, 0, none⟩ = some (.int .i64 a0) ∧ w'.cell? ⟨w8.heap.size, 1, none⟩ = some (.int .i64 0)) (by kernel_rfl) (by kernel_rfl) ⟨HR9.out.cell 1, HR9.out.cell 2, HX9.out.cell 0, HX9.out.cell 1, HY9.out.cell 0, HY9.out.cell 1⟩ (fun hHeld => ?_)
          simp only [List.map_cons, List.map_nil, List.getElem?_toArray, List.getElem?_cons_zero, List.getElem?_cons_succ]
          repeat (first | (first | (refine seq_skip (by rfl) ?_; try simp only [Act.put, List.setIfInBounds_toArray, List.set_cons_zero, List.set_cons_succ]) | (refine seq_not (by rfl) (by assumption) ?_; try simp only [Act.put, List.setIfInBounds_toArray, List.set_cons_zero, List.set_cons_succ]) | (refine seq_take (v := ?_) (by rfl) ?_ ?_; rotate_left; (focus ((intro w hSw; (try dsimp only at hSw); go_simp; (try with_reducible rfl)); done)); try simp only [Act.put, List.setIfInBounds_toArray, List.set_cons_zero, List.set_cons_succ])) | (refine seq_do (fun K hK => ?_); go_simp; go_at_call 8; with_reducible refine Calls.mono (level_ok p a0 l2 q2 _ HL9.out) ?_; rintro e w' ⟨rfl, rfl⟩; dsimp only; refine hK.out _ _ (by assumption) (fun _ => ?_); clear hK K) | (refine seq_do (fun K hK => ?_); go_simp; go_at_call 10; with_reducible refine Calls.mono (parent_ok p a0 l2 q2 _ HL9.out) ?_; rintro e w' ⟨rfl, rfl⟩; dsimp only; refine hK.out _ _ (by assumption) (fun _ => ?_); clear hK K))
          refine seq_done ?_
          clear hHeld
          go_wp2
          go_roundw
          case rel => exact ⟨k + 1, r2, l2, q2, hlt, by go_num, rfl, hbx, HI.out, HL9.out, HR9.out, HB9.out⟩
          case measure => simp [intOf]; omega
      | false =>
        have hC1 := fun w h => hear_ok p a0 l q x y w h
        have hC2 := fun w h => rhear_ok r a0 l q x y w h HI.out
        have hI2 := hear_lq (me := a0) (a := x) (b := y) HI.out
        generalize hear a0 l q x y = hh at hC1 hC2 hI2
        obtain ⟨v, l2, q2⟩ := hh
        have C1 := Lib.hid hC1
        have C2 := Lib.hid hC2
        have HI2 := Lib.hid hI2
        clear hC1 hC2 hI2 HI
        go_wp2_with fail
        have HL3 := Lib.hid HL2.out.drew
        have HR3 := Lib.hid HR2.out.drew
        have HX3 := Lib.hid HX2.out.drew
        have HB3 := Lib.hid (below_drew_ HB2.out)
        clear e0 e1 e2 HL2 HR2 HX2 HB2
        refine wp_region_seq [(0, true), (1, true), (2, true), (4, true), (5, true), (6, true), (7, true), (8, true), (9, true), (10, true), (3, false), (11, false), (12, true)] (fun w' => w'.cell? ⟨wr.heap.size, 1, none⟩ = some (.int .i64 x) ∧ w'.cell? ⟨wr.heap.size, 2, none⟩ = some (.int .i64 y)) (by kernel_rfl) (by kernel_rfl) ⟨HX3.out.cell 1, HX3.out.cell 2⟩ (fun hHeld => ?_)
        simp only [List.map_cons, List.map_nil, List.getElem?_toArray, List.getElem?_cons_zero, List.getElem?_cons_succ]
        repeat (first | (refine seq_skip (by rfl) ?_; try simp only [Act.put, List.setIfInBounds_toArray, List.set_cons_zero, List.set_cons_succ]) | (refine seq_not (by rfl) (by assumption) ?_; try simp only [Act.put, List.setIfInBounds_toArray, List.set_cons_zero, List.set_cons_succ]) | (refine seq_take (v := ?_) (by rfl) ?_ ?_; rotate_left; (focus ((intro w hSw; (try dsimp only at hSw); go_simp; (try with_reducible rfl)); done)); try simp only [Act.put, List.setIfInBounds_toArray, List.set_cons_zero, List.set_cons_succ]))
        refine seq_do (fun K hK => ?_)
        go_simp
        go_at_call 9
        with_reducible refine Calls.mono (C1.out _ HL3.out) ?_
        rintro e w5 ⟨rfl, hl, hk⟩
        have HL4 := Lib.hid hl
        have HR4 := Lib.hid (blk_kp HR3.out hk (fun h => hrp h))
        have HX4 := Lib.hid (blk_kp HX3.out hk (fun h => by omega))
        have HB4 := Lib.hid (below_kp HB3.out HB3.out.size hk (fun k hk => by omega))
        clear hl hk hHeld
        dsimp only
        refine hK.out _ _ ⟨HX4.out.cell 1, HX4.out.cell 2⟩ (fun hHeld => ?_)
        clear hK K
        repeat (first | (refine seq_skip (by rfl) ?_; try simp only [Act.put, List.setIfInBounds_toArray, List.set_cons_zero, List.set_cons_succ]) | (refine seq_not (by rfl) (by assumption) ?_; try simp only [Act.put, List.setIfInBounds_toArray, List.set_cons_zero, List.set_cons_succ]) | (refine seq_take (v := ?_) (by rfl) ?_ ?_; rotate_left; (focus ((intro w hSw; (try dsimp only at hSw); go_simp; (try with_reducible rfl)); done)); try simp only [Act.put, List.setIfInBounds_toArray, List.set_cons_zero, List.set_cons_succ]))
        refine seq_do (fun K hK => ?_)
        go_simp
        go_at_call 15
        with_reducible refine Calls.mono (C2.out _ HR4.out) ?_
        rintro e w6 ⟨rfl, hl, hk⟩
        have HR := Lib.hid hl
        have HL := Lib.hid (blk_kp HL4.out hk (fun h => hrp h.symm))
        have HX5 := Lib.hid (blk_kp HX4.out hk (fun h => by omega))
        have HB := Lib.hid (below_kp HB4.out HB4.out.size hk (fun k hk => by omega))
        clear hl hk hHeld
        dsimp only
        refine hK.out _ _ ⟨HX5.out.cell 1, HX5.out.cell 2⟩ (fun hHeld => ?_)
        clear hK K
        repeat (first | (refine seq_skip (by rfl) ?_; try simp only [Act.put, List.setIfInBounds_toArray, List.set_cons_zero, List.set_cons_succ]) | (refine seq_not (by rfl) (by assumption) ?_; try simp only [Act.put, List.setIfInBounds_toArray, List.set_cons_zero, List.set_cons_succ]) | (refine seq_take (v := ?_) (by rfl) ?_ ?_; rotate_left; (focus ((intro w hSw; (try dsimp only at hSw); go_simp; (try with_reducible rfl)); done)); try simp only [Act.put, List.setIfInBounds_toArray, List.set_cons_zero, List.set_cons_succ]))
        refine seq_done ?_
        have HI := HI2
        have hbx9 := hr
        clear hHeld HL3 HR3 HX3 HB3 HL4 HR4 HX4 HB4 HX5 C1 C2 HI2 hbx hr hrp hbp hbr
        have hbx := hbx9
        clear hbx9
        obtain ⟨r2, rfl⟩ : ∃ r2, r2 = r := ⟨_, rfl⟩
        by_cases hl0 : 0 ≤ l2
        · skip
          have hld : decide (0 ≤ l2) = true := by simp; try omega
          go_wp2_with fail
          refine (tell_yes p a0 l2 q2 _ HL.out (by omega)).mono ?_
          rintro e w6 ⟨rfl, hb⟩
          have HL6 := Lib.hid (HL.out.keeps hb)
          have HR6 := Lib.hid (HR.out.keeps hb)
          have HB6 := Lib.hid (HB.out.trans (hb.mono HB.out.size))
          clear hb
          have HL7 := Lib.hid (HL6.out.alloc (.cells #[.int .i64 (a0), .int .i64 (l2)] 30))
          have HR7 := Lib.hid (HR6.out.alloc (.cells #[.int .i64 (a0), .int .i64 (l2)] 30))
          have HB7 := Lib.hid (HB6.out.alloc HB6.out.size (.cells #[.int .i64 (a0), .int .i64 (l2)] 30))
          have HX7 := Lib.hid (Blk.new w6 30 #[.int .i64 (a0), .int .i64 (l2)])
          go_wp2_with fail
          refine (tell_self p a0 l2 q2 _ HL7.out).mono ?_
          rintro e w8 ⟨rfl, hb⟩
          have HL8 := Lib.hid (HL7.out.keeps hb)
          have HR8 := Lib.hid (HR7.out.keeps hb)
          have HB8 := Lib.hid (HB7.out.trans (hb.mono HB7.out.size))
          have HX8 := Lib.hid (HX7.out.keeps hb)
          clear hb
          go_wp2_with fail
          have HL9 := Lib.hid (HL8.out.alloc (.cells #[.int .i64 a0, .int .i64 0] 30)).drew
          have HR9 := Lib.hid (HR8.out.alloc (.cells #[.int .i64 a0, .int .i64 0] 30)).drew
          have HB9 := Lib.hid (below_drew_ (HB8.out.alloc HB8.out.size (.cells #[.int .i64 a0, .int .i64 0] 30)))
          have HX9 := Lib.hid (HX8.out.alloc (.cells #[.int .i64 a0, .int .i64 0] 30)).drew
          have HY9 := Lib.hid (Blk.new w8 30 #[.int .i64 a0, .int .i64 0]).drew
          clear HL8 HR8 HB8 HX8 HL7 HR7 HB7 HX7 HL6 HR6 HB6 HL HR HB
          refine wp_region_seq [(0, true), (2, true), (3, true), (4, true), (5, true), (1, false), (6, true), (7, true), (8, true), (10, true), (11, true), (12, true), (13, true), (9, false), (14, true), (15, true), (16, true), (17, true), (18, true), (19, true), (20, true), (21, true), (22, true), (23, true), (24, true), (25, true), (26, true), (27, true), (28, true), (29, true), (30, true), (31, true), (32, true), (33, true), (34, true), (35, true), (36, true), (37, true), (38, true), (39, true), (40, true), (41, true), (42, true), (43, true), (44, true), (45, true), (46, true), (47, true), (48, true), (49, true), (50, true), (51, true), (52, true), (53, true), (54, true), (55, true), (56, true)] (fun w' => w'.cell? ⟨r2, 1, none⟩ = some (.int .i64 l2) ∧ w'.cell? ⟨r2, 2, none⟩ = some (.int .i64 q2) ∧ w'.cell? ⟨w6.heap.size, 0, none⟩ = some (.int .i64 (a0)) ∧ w'.cell? ⟨w6.heap.size, 1, none⟩ = some (.int .i64 (l2)) ∧ w'.cell? ⟨w8.heap.size, 0, none⟩ = some (.int .i64 a0) ∧ w'.cell? ⟨w8.heap.size, 1, none⟩ = some (.int .i64 0)) (by kernel_rfl) (by kernel_rfl) ⟨HR9.out.cell 1, HR9.out.cell 2, HX9.out.cell 0, HX9.out.cell 1, HY9.out.cell 0, HY9.out.cell 1⟩ (fun hHeld => ?_)
          simp only [List.map_cons, List.map_nil, List.getElem?_toArray, List.getElem?_cons_zero, List.getElem?_cons_succ]
          repeat (first | (first | (refine seq_skip (by rfl) ?_; try simp only [Act.put, List.setIfInBounds_toArray, List.set_cons_zero, List.set_cons_succ]) | (refine seq_not (by rfl) (by assumption) ?_; try simp only [Act.put, List.setIfInBounds_toArray, List.set_cons_zero, List.set_cons_succ]) | (refine seq_take (v := ?_) (by rfl) ?_ ?_; rotate_left; (focus ((intro w hSw; (try dsimp only at hSw); go_simp; (try with_reducible rfl)); done)); try simp only [Act.put, List.setIfInBounds_toArray, List.set_cons_zero, List.set_cons_succ])) | (refine seq_do (fun K hK => ?_); go_simp; go_at_call 8; with_reducible refine Calls.mono (level_ok p a0 l2 q2 _ HL9.out) ?_; rintro e w' ⟨rfl, rfl⟩; dsimp only; refine hK.out _ _ (by assumption) (fun _ => ?_); clear hK K) | (refine seq_do (fun K hK => ?_); go_simp; go_at_call 10; with_reducible refine Calls.mono (parent_ok p a0 l2 q2 _ HL9.out) ?_; rintro e w' ⟨rfl, rfl⟩; dsimp only; refine hK.out _ _ (by assumption) (fun _ => ?_); clear hK K))
          refine seq_done ?_
          clear hHeld
          go_wp2
          go_roundw
          case rel => exact ⟨k + 1, r2, l2, q2, hlt, by go_num, rfl, hbx, HI.out, HL9.out, HR9.out, HB9.out⟩
          case measure => simp [intOf]; omega
        · have hl1 : l2 < 0 := by omega
          clear hl0
          have hld : decide (0 ≤ l2) = false := by simp; try omega
          go_wp2_with fail
          refine (tell_no p a0 l2 q2 _ HL.out (by omega)).mono ?_
          rintro e w6 ⟨rfl, hb⟩
          have HL6 := Lib.hid (HL.out.keeps hb)
          have HR6 := Lib.hid (HR.out.keeps hb)
          have HB6 := Lib.hid (HB.out.trans (hb.mono HB.out.size))
          clear hb
          have HL7 := Lib.hid (HL6.out.alloc (.cells #[.int .i64 (0), .int .i64 (0)] 30))
          have HR7 := Lib.hid (HR6.out.alloc (.cells #[.int .i64 (0), .int .i64 (0)] 30))
          have HB7 := Lib.hid (HB6.out.alloc HB6.out.size (.cells #[.int .i64 (0), .int .i64 (0)] 30))
          have HX7 := Lib.hid (Blk.new w6 30 #[.int .i64 (0), .int .i64 (0)])
          go_wp2_with fail
          refine (tell_self p a0 l2 q2 _ HL7.out).mono ?_
          rintro e w8 ⟨rfl, hb⟩
          have HL8 := Lib.hid (HL7.out.keeps hb)
          have HR8 := Lib.hid (HR7.out.keeps hb)
          have HB8 := Lib.hid (HB7.out.trans (hb.mono HB7.out.size))
          have HX8 := Lib.hid (HX7.out.keeps hb)
          clear hb
          go_wp2_with fail
          have HL9 := Lib.hid (HL8.out.alloc (.cells #[.int .i64 a0, .int .i64 0] 30)).drew
          have HR9 := Lib.hid (HR8.out.alloc (.cells #[.int .i64 a0, .int .i64 0] 30)).drew
          have HB9 := Lib.hid (below_drew_ (HB8.out.alloc HB8.out.size (.cells #[.int .i64 a0, .int .i64 0] 30)))
          have HX9 := Lib.hid (HX8.out.alloc (.cells #[.int .i64 a0, .int .i64 0] 30)).drew
          have HY9 := Lib.hid (Blk.new w8 30 #[.int .i64 a0, .int .i64 0]).drew
          clear HL8 HR8 HB8 HX8 HL7 HR7 HB7 HX7 HL6 HR6 HB6 HL HR HB
          refine wp_region_seq [(0, true), (2, true), (3, true), (4, true), (5, true), (1, false), (6, true), (7, true), (8, true), (10, true), (11, true), (12, true), (13, true), (9, false), (14, true), (15, true), (16, true), (17, true), (18, true), (19, true), (20, true), (21, true), (22, true), (23, true), (24, true), (25, true), (26, true), (27, true), (28, true), (29, true), (30, true), (31, true), (32, true), (33, true), (34, true), (35, true), (36, true), (37, true), (38, true), (39, true), (40, true), (41, true), (42, true), (43, true), (44, true), (45, true), (46, true), (47, true), (48, true), (49, true), (50, true), (51, true), (52, true), (53, true), (54, true), (55, true), (56, true)] (fun w' => w'.cell? ⟨r2, 1, none⟩ = some (.int .i64 l2) ∧ w'.cell? ⟨r2, 2, none⟩ = some (.int .i64 q2) ∧ w'.cell? ⟨w6.heap.size, 0, none⟩ = some (.int .i64 (0)) ∧ w'.cell? ⟨w6.heap.size, 1, none⟩ = some (.int .i64 (0)) ∧ w'.cell? ⟨w8.heap.size, 0, none⟩ = some (.int .i64 a0) ∧ w'.cell? ⟨w8.heap.size, 1, none⟩ = some (.int .i64 0)) (by kernel_rfl) (by kernel_rfl) ⟨HR9.out.cell 1, HR9.out.cell 2, HX9.out.cell 0, HX9.out.cell 1, HY9.out.cell 0, HY9.out.cell 1⟩ (fun hHeld => ?_)
          simp only [List.map_cons, List.map_nil, List.getElem?_toArray, List.getElem?_cons_zero, List.getElem?_cons_succ]
          repeat (first | (first | (refine seq_skip (by rfl) ?_; try simp only [Act.put, List.setIfInBounds_toArray, List.set_cons_zero, List.set_cons_succ]) | (refine seq_not (by rfl) (by assumption) ?_; try simp only [Act.put, List.setIfInBounds_toArray, List.set_cons_zero, List.set_cons_succ]) | (refine seq_take (v := ?_) (by rfl) ?_ ?_; rotate_left; (focus ((intro w hSw; (try dsimp only at hSw); go_simp; (try with_reducible rfl)); done)); try simp only [Act.put, List.setIfInBounds_toArray, List.set_cons_zero, List.set_cons_succ])) | (refine seq_do (fun K hK => ?_); go_simp; go_at_call 8; with_reducible refine Calls.mono (level_ok p a0 l2 q2 _ HL9.out) ?_; rintro e w' ⟨rfl, rfl⟩; dsimp only; refine hK.out _ _ (by assumption) (fun _ => ?_); clear hK K) | (refine seq_do (fun K hK => ?_); go_simp; go_at_call 10; with_reducible refine Calls.mono (parent_ok p a0 l2 q2 _ HL9.out) ?_; rintro e w' ⟨rfl, rfl⟩; dsimp only; refine hK.out _ _ (by assumption) (fun _ => ?_); clear hK K))
          refine seq_done ?_
          clear hHeld
          go_wp2
          go_roundw
          case rel => exact ⟨k + 1, r2, l2, q2, hlt, by go_num, rfl, hbx, HI.out, HL9.out, HR9.out, HB9.out⟩
          case measure => simp [intOf]; omega
    · go_wp2
      go_ret
      exact ⟨rfl, HB.out⟩
end Go.Proofs.Yteeeolagnndcaac.LevelDoesW
