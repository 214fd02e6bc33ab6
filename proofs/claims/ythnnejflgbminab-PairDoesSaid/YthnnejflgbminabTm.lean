/- The walks over the four times of an exchange. -/
import Derived.Test.YthnnejflgbminabChecked
import Derived.Test.YthnnejflgbminabKp
import Derived.Test.YthnnejflgbminabSq
import Derived.Test.YthnnejflgbminabCk
import Derived.Deep.QuietTactic
import Derived.BigQuiet
import Derived.BigRegion
import Derived.WalkLawsBesides
import Derived.WalkSpells
import Derived.IntWalk
import Derived.Lib.Hide
namespace Go.Proofs.Ythnnejflgbminab.Tm
open Go.RowKit Go.Proofs.Ythnnejflgbminab.Bk Go.Proofs.Ythnnejflgbminab.Rw Go.Proofs.Ythnnejflgbminab.Ow Go.Proofs.Ythnnejflgbminab.Kp Go.Proofs.Ythnnejflgbminab.Sq Go.Proofs.Ythnnejflgbminab.Ck

def inT (x : Int) : Bool := decide (0 ≤ x ∧ x ≤ 1125899906842624)
def tg (s g b c : Int) : Bool := inT s && inT g && inT b && inT c && decide (s ≤ c)
theorem inT_iff {x : Int} : inT x = true ↔ 0 ≤ x ∧ x ≤ 1125899906842624 := by unfold inT; exact decide_eq_true_iff
theorem tg_iff {s g b c : Int} : tg s g b c = true ↔ (0 ≤ s ∧ s ≤ 1125899906842624) ∧ (0 ≤ g ∧ g ≤ 1125899906842624) ∧ (0 ≤ b ∧ b ≤ 1125899906842624) ∧ (0 ≤ c ∧ c ≤ 1125899906842624) ∧ s ≤ c := by
  unfold tg
  simp only [Bool.and_eq_true, inT_iff, decide_eq_true_eq]
  omega
theorem idx (s g b c : Int) : (∀ w, (Instr.index 62 (.agg #[.int .i64 s, .int .i64 g, .int .i64 b, .int .i64 c]) (.int .i64 0)).run Try.prog w = .ok (.int .i64 s) w) ∧
    (∀ w, (Instr.index 62 (.agg #[.int .i64 s, .int .i64 g, .int .i64 b, .int .i64 c]) (.int .i64 1)).run Try.prog w = .ok (.int .i64 g) w) ∧
    (∀ w, (Instr.index 62 (.agg #[.int .i64 s, .int .i64 g, .int .i64 b, .int .i64 c]) (.int .i64 2)).run Try.prog w = .ok (.int .i64 b) w) ∧
    (∀ w, (Instr.index 62 (.agg #[.int .i64 s, .int .i64 g, .int .i64 b, .int .i64 c]) (.int .i64 3)).run Try.prog w = .ok (.int .i64 c) w) :=
  ⟨fun _ => by kernel_rfl, fun _ => by kernel_rfl, fun _ => by kernel_rfl, fun _ => by kernel_rfl⟩

set_option maxHeartbeats 800000 in
theorem good_ok (s g b c : Int) (w : World) :
    Calls Try.prog 10 #[.agg #[.int .i64 s, .int .i64 g, .int .i64 b, .int .i64 c]] w fun e w' => e = .returned (.bool (tg s g b c)) ∧ Below w.heap.size w w' := by
  have HB := Lib.hid ((Below.refl _ w).alloc (Nat.le_refl _) (.cells #[.int .i64 s, .int .i64 g, .int .i64 b, .int .i64 c] 23))
  obtain ⟨i0, i1, i2, i3⟩ := idx s g b c
  go_enter Try.func10, Try.ntmps10
  go_wp2
  go_loopw [4, 14] (fun _ i wr => ∃ k : Nat, k ≤ 4 ∧ i = .int .i64 k ∧ (0 < k → inT s = true) ∧ (1 < k → inT g = true) ∧ (2 < k → inT b = true) ∧ (3 < k → inT c = true) ∧ wr = w.alloc (.cells #[.int .i64 s, .int .i64 g, .int .i64 b, .int .i64 c] 23)) (fun _ i _ => 4 - (intOf i).toNat)
  case atStart => exact ⟨0, by omega, rfl, by simp, by simp, by simp, by simp, rfl⟩
  case round =>
    obtain ⟨k, hk, rfl, h0, h1, h2, h3, rfl⟩ := hrel
    have H0 := Lib.hid h0
    have H1 := Lib.hid h1
    have H2 := Lib.hid h2
    have H3 := Lib.hid h3
    clear h0 h1 h2 h3
    rcases (by omega : k = 0 ∨ k = 1 ∨ k = 2 ∨ k = 3 ∨ k = 4) with rfl | rfl | rfl | rfl | rfl
    · by_cases hx : inT s = true
      · have h := inT_iff.1 hx
        obtain ⟨ha, hb⟩ := h
        have HX := Lib.hid hx
        clear hx
        go_wp2
        go_roundw
        case rel => exact ⟨1, by omega, rfl, fun _ => HX.out, by simp, by simp, by simp, trivial⟩
        case measure => simp [intOf]
      · have hn : s < 0 ∨ (¬ s < 0 ∧ 1125899906842624 < s) := by have := mt inT_iff.2 hx; omega
        have HX := Lib.hid (show tg s g b c = false by unfold tg; simp [show inT s = false by simpa using hx])
        clear hx
        rcases hn with hn | ⟨hn, hn2⟩
        all_goals
          go_wp2
          go_ret
          exact ⟨by rw [HX.out]; rfl, HB.out⟩
    · by_cases hx : inT g = true
      · have h := inT_iff.1 hx
        obtain ⟨ha, hb⟩ := h
        have HX := Lib.hid hx
        clear hx
        go_wp2
        go_roundw
        case rel => exact ⟨2, by omega, rfl, fun _ => H0.out (by omega), fun _ => HX.out, by simp, by simp, trivial⟩
        case measure => simp [intOf]
      · have hn : g < 0 ∨ (¬ g < 0 ∧ 1125899906842624 < g) := by have := mt inT_iff.2 hx; omega
        have HX := Lib.hid (show tg s g b c = false by unfold tg; simp [show inT g = false by simpa using hx])
        clear hx
        rcases hn with hn | ⟨hn, hn2⟩
        all_goals
          go_wp2
          go_ret
          exact ⟨by rw [HX.out]; rfl, HB.out⟩
    · by_cases hx : inT b = true
      · have h := inT_iff.1 hx
        obtain ⟨ha, hb⟩ := h
        have HX := Lib.hid hx
        clear hx
        go_wp2
        go_roundw
        case rel => exact ⟨3, by omega, rfl, fun _ => H0.out (by omega), fun _ => H1.out (by omega), fun _ => HX.out, by simp, trivial⟩
        case measure => simp [intOf]
      · have hn : b < 0 ∨ (¬ b < 0 ∧ 1125899906842624 < b) := by have := mt inT_iff.2 hx; omega
        have HX := Lib.hid (show tg s g b c = false by unfold tg; simp [show inT b = false by simpa using hx])
        clear hx
        rcases hn with hn | ⟨hn, hn2⟩
        all_goals
          go_wp2
          go_ret
          exact ⟨by rw [HX.out]; rfl, HB.out⟩
    · by_cases hx : inT c = true
      · have h := inT_iff.1 hx
        obtain ⟨ha, hb⟩ := h
        have HX := Lib.hid hx
        clear hx
        go_wp2
        go_roundw
        case rel => exact ⟨4, by omega, rfl, fun _ => H0.out (by omega), fun _ => H1.out (by omega), fun _ => H2.out (by omega), fun _ => HX.out, trivial⟩
        case measure => simp [intOf]
      · have hn : c < 0 ∨ (¬ c < 0 ∧ 1125899906842624 < c) := by have := mt inT_iff.2 hx; omega
        have HX := Lib.hid (show tg s g b c = false by unfold tg; simp [show inT c = false by simpa using hx])
        clear hx
        rcases hn with hn | ⟨hn, hn2⟩
        all_goals
          go_wp2
          go_ret
          exact ⟨by rw [HX.out]; rfl, HB.out⟩
    · have hx : tg s g b c = decide (s ≤ c) := by
        unfold tg
        rw [H0.out (by omega), H1.out (by omega), H2.out (by omega), H3.out (by omega)]
        rfl
      have HX := Lib.hid hx
      clear hx
      go_wp2
      go_ret
      exact ⟨by rw [HX.out]; rfl, HB.out⟩

theorem tdiv_neg (a : Int) (h : a < 0) : a.tdiv 2 = -((-a) / 2) ∧ a.tmod 2 = -((-a) % 2) := by
  obtain ⟨n, rfl⟩ : ∃ n : Int, a = -n := ⟨-a, by omega⟩
  rw [Int.neg_tdiv, Int.neg_tmod, Int.neg_neg, Int.tdiv_eq_ediv_of_nonneg (by omega), Int.tmod_eq_emod_of_nonneg (by omega)]
  exact ⟨rfl, rfl⟩
theorem td (a : Int) : ∃ q r : Int, a.tdiv 2 = q ∧ a.tmod 2 = r ∧ ((0 ≤ r ∧ q = a / 2 ∧ r = a % 2 ∧ (r = 0 ∨ 0 ≤ a)) ∨ (a < 0 ∧ r = -1 ∧ q - 1 = a / 2 ∧ a % 2 = 1)) := by
  refine ⟨_, _, rfl, rfl, ?_⟩
  by_cases h : a < 0
  · rw [(tdiv_neg a h).1, (tdiv_neg a h).2]
    omega
  · rw [Int.tdiv_eq_ediv_of_nonneg (by omega), Int.tmod_eq_emod_of_nonneg (by omega)]
    omega
theorem floor_ok (a : Int) (w : World) (h0 : -9007199254740992 ≤ a) (h1 : a ≤ 9007199254740992) :
    Calls Try.prog 26 #[.int .i64 a, .int .i64 2] w fun e w' => e = .returned (.tuple #[.int .i64 (a / 2), .int .i64 (a % 2), .bool true]) ∧ Below w.heap.size w w' := by
  obtain ⟨q, r, hq, hr, hc⟩ := td a
  have HC := Lib.hid hc
  have hwq : IntKind.i64.wrap q = q := IntWalk.i64_in _ (by omega)
  have q0 : -9007199254740992 ≤ q := by omega
  have q1 : q ≤ 9007199254740992 := by omega
  by_cases hr0 : r < 0
  · have hr1 : r = -1 := by omega
    subst hr1
    clear hc
    go_enter Try.func26, Try.ntmps26
    go_wp2
    refine wp_region_seq [(0, true), (1, true), (2, true), (3, true), (4, true), (5, true), (6, true), (7, true)] (fun w' => True) (by kernel_rfl) (by kernel_rfl) trivial (fun hHeld => ?_)
    simp only [List.map_cons, List.map_nil, List.getElem?_toArray, List.getElem?_cons_zero, List.getElem?_cons_succ]
    repeat (first | (refine seq_skip (by rfl) ?_; try simp only [Act.put, List.setIfInBounds_toArray, List.set_cons_zero, List.set_cons_succ]) | (refine seq_not (by rfl) (by assumption) ?_; try simp only [Act.put, List.setIfInBounds_toArray, List.set_cons_zero, List.set_cons_succ]) | (refine seq_take (v := ?_) (by rfl) ?_ ?_; rotate_left; (focus ((intro w hSw; (try dsimp only at hSw); go_simp; (try with_reducible rfl)); done)); try simp only [Act.put, List.setIfInBounds_toArray, List.set_cons_zero, List.set_cons_succ]))
    refine seq_done ?_
    clear hHeld hq hr hwq
    go_wp2
    go_ret3
    have := HC.out
    exact ⟨by rw [show a / 2 = q - 1 by omega, show a % 2 = 1 by omega]; rfl, below_drew (Below.refl _ _)⟩
  · clear hc
    go_enter Try.func26, Try.ntmps26
    go_wp2
    refine wp_region_seq [(0, true), (1, true), (2, true), (3, true), (4, true), (5, true), (6, true), (7, true)] (fun w' => True) (by kernel_rfl) (by kernel_rfl) trivial (fun hHeld => ?_)
    simp only [List.map_cons, List.map_nil, List.getElem?_toArray, List.getElem?_cons_zero, List.getElem?_cons_succ]
    repeat (first | (refine seq_skip (by rfl) ?_; try simp only [Act.put, List.setIfInBounds_toArray, List.set_cons_zero, List.set_cons_succ]) | (refine seq_not (by rfl) (by assumption) ?_; try simp only [Act.put, List.setIfInBounds_toArray, List.set_cons_zero, List.set_cons_succ]) | (refine seq_take (v := ?_) (by rfl) ?_ ?_; rotate_left; (focus ((intro w hSw; (try dsimp only at hSw); go_simp; (try with_reducible rfl)); done)); try simp only [Act.put, List.setIfInBounds_toArray, List.set_cons_zero, List.set_cons_succ]))
    refine seq_done ?_
    clear hHeld hq hr hwq
    go_wp2
    go_ret3
    have := HC.out
    exact ⟨by rw [show a / 2 = q by omega, show a % 2 = r by omega]; rfl, below_drew (Below.refl _ _)⟩
theorem rfloor_ok (a : Int) (w : World) (h0 : -9007199254740992 ≤ a) (h1 : a ≤ 9007199254740992) :
    Calls Try.prog 27 #[.int .i64 a, .int .i64 2] w fun e w' => e = .returned (.tuple #[.int .i64 (a / 2), .int .i64 (a % 2)]) ∧ Below w.heap.size w w' := by
  obtain ⟨q, r, hq, hr, hc⟩ := td a
  have HC := Lib.hid hc
  have hwq : IntKind.i64.wrap q = q := IntWalk.i64_in _ (by omega)
  have hwq2 : wrap64 q = q := by unfold wrap64; omega
  have hwq1 : IntKind.i64.wrap (q - 1) = q - 1 := IntWalk.i64_in _ (by omega)
  have q0 : -9007199254740992 ≤ q := by omega
  have q1 : q ≤ 9007199254740992 := by omega
  by_cases hr0 : r < 0
  · have hr1 : r = -1 := by omega
    subst hr1
    have ha : a < 0 := by omega
    have had : decide (a < 0) = true := decide_eq_true ha
    clear hc
    go_enter Try.func27, Try.ntmps27
    go_wp2
    refine wp_region_seq [(0, true), (1, true), (2, true), (3, true), (4, true), (5, true), (6, true), (7, true), (8, true)] (fun w' => True) (by kernel_rfl) (by kernel_rfl) trivial (fun hHeld => ?_)
    simp only [List.map_cons, List.map_nil, List.getElem?_toArray, List.getElem?_cons_zero, List.getElem?_cons_succ]
    repeat (first | (refine seq_skip (by rfl) ?_; try simp only [Act.put, List.setIfInBounds_toArray, List.set_cons_zero, List.set_cons_succ]) | (refine seq_not (by rfl) (by assumption) ?_; try simp only [Act.put, List.setIfInBounds_toArray, List.set_cons_zero, List.set_cons_succ]) | (refine seq_take (v := ?_) (by rfl) ?_ ?_; rotate_left; (focus ((intro w hSw; (try dsimp only at hSw); go_simp; (try with_reducible rfl)); done)); try simp only [Act.put, List.setIfInBounds_toArray, List.set_cons_zero, List.set_cons_succ]))
    refine seq_done ?_
    clear hHeld hq hr hwq hwq1 hwq2
    go_wp2
    go_ret2
    have := HC.out
    exact ⟨by rw [show a / 2 = q - 1 by omega, show a % 2 = 1 by omega]; rfl, below_drew (Below.refl _ _)⟩
  · by_cases hz : r = 0
    · subst hz
      clear hc hr0
      go_enter Try.func27, Try.ntmps27
      go_wp2
      refine wp_region_seq [(0, true), (1, true), (2, true), (3, true), (4, true), (5, true)] (fun w' => True) (by kernel_rfl) (by kernel_rfl) trivial (fun hHeld => ?_)
      simp only [List.map_cons, List.map_nil, List.getElem?_toArray, List.getElem?_cons_zero, List.getElem?_cons_succ]
      repeat (first | (refine seq_skip (by rfl) ?_; try simp only [Act.put, List.setIfInBounds_toArray, List.set_cons_zero, List.set_cons_succ]) | (refine seq_not (by rfl) (by assumption) ?_; try simp only [Act.put, List.setIfInBounds_toArray, List.set_cons_zero, List.set_cons_succ]) | (refine seq_take (v := ?_) (by rfl) ?_ ?_; rotate_left; (focus ((intro w hSw; (try dsimp only at hSw); go_simp; (try with_reducible rfl)); done)); try simp only [Act.put, List.setIfInBounds_toArray, List.set_cons_zero, List.set_cons_succ]))
      refine seq_done ?_
      clear hHeld hq hr hwq hwq1 hwq2
      go_wp2
      go_ret2
      have := HC.out
      exact ⟨by rw [show a / 2 = q by omega, show a % 2 = 0 by omega]; rfl, below_drew (Below.refl _ _)⟩
    · have ha : ¬ a < 0 := by omega
      have had : decide (a < 0) = false := decide_eq_false ha
      have hrz : (r != 0) = true := by simpa using hz
      clear hc hr0
      go_enter Try.func27, Try.ntmps27
      go_wp2
      refine wp_region_seq [(0, true), (1, true), (2, true), (3, true), (4, true), (5, true)] (fun w' => True) (by kernel_rfl) (by kernel_rfl) trivial (fun hHeld => ?_)
      simp only [List.map_cons, List.map_nil, List.getElem?_toArray, List.getElem?_cons_zero, List.getElem?_cons_succ]
      repeat (first | (refine seq_skip (by rfl) ?_; try simp only [Act.put, List.setIfInBounds_toArray, List.set_cons_zero, List.set_cons_succ]) | (refine seq_not (by rfl) (by assumption) ?_; try simp only [Act.put, List.setIfInBounds_toArray, List.set_cons_zero, List.set_cons_succ]) | (refine seq_take (v := ?_) (by rfl) ?_ ?_; rotate_left; (focus ((intro w hSw; (try dsimp only at hSw); go_simp; (try with_reducible rfl)); done)); try simp only [Act.put, List.setIfInBounds_toArray, List.set_cons_zero, List.set_cons_succ]))
      refine seq_done ?_
      clear hHeld hq hr hwq hwq1 hwq2
      go_wp2
      go_ret2
      have := HC.out
      exact ⟨by rw [show a / 2 = q by omega, show a % 2 = r by omega]; rfl, below_drew (Below.refl _ _)⟩
theorem cells4 {w : World} {b : Nat} {t : TypeId} {x0 x1 x2 x3 : Value} (h : Blk w b t #[x0, x1, x2, x3]) : w.cell? ⟨b, 0, none⟩ = some x0 ∧ w.cell? ⟨b, 1, none⟩ = some x1 ∧ w.cell? ⟨b, 2, none⟩ = some x2 ∧ w.cell? ⟨b, 3, none⟩ = some x3 := ⟨h.cell 0, h.cell 1, h.cell 2, h.cell 3⟩
/-- By how much the other clock is ahead; how long a way takes. -/
def offs (s g b c : Int) : Int := (g - s + b - c) / 2
def dely (s g b c : Int) : Int := (c - s - b + g) / 2
theorem offset_good (s g b c : Int) (w : World) (hg : tg s g b c = true) :
    Calls Try.prog 11 #[.agg #[.int .i64 s, .int .i64 g, .int .i64 b, .int .i64 c]] w fun e w' => e = .returned (.int .i64 (offs s g b c)) ∧ Below w.heap.size w w' := by
  have HB := Lib.hid ((Below.refl _ w).alloc (Nat.le_refl _) (.cells #[.int .i64 s, .int .i64 g, .int .i64 b, .int .i64 c] 23))
  have HX := Lib.hid (Blk.new w 23 #[.int .i64 s, .int .i64 g, .int .i64 b, .int .i64 c])
  have hh := tg_iff.1 hg
  obtain ⟨⟨a1, a2⟩, ⟨a3, a4⟩, ⟨a5, a6⟩, ⟨a7, a8⟩, a9⟩ := hh
  have hG := fun w => good_ok s g b c w
  rw [hg] at hG
  have HG := Lib.hid hG
  clear hG hg
  unfold offs
  go_enter Try.func11, Try.ntmps11
  go_wp2_with (first
    | (go_at_call 10; (with_reducible refine Calls.mono (HG.out _) ?_); rintro e w2 ⟨rfl, hb⟩; have HB2 := Lib.hid (HB.out.trans (hb.mono HB.out.size)); have HX2 := Lib.hid (HX.out.keeps hb); clear hb; obtain ⟨x0, x1, x2, x3⟩ := cells4 HX2.out)
    | (go_at_call 26; (with_reducible refine Calls.mono (floor_ok _ _ (by omega) (by omega)) ?_); rintro e w3 ⟨rfl, hb⟩; have HB3 := Lib.hid (HB2.out.trans (hb.mono HB2.out.size)); clear hb))
  go_ret
  exact ⟨rfl, HB3.out⟩
theorem offset_bad (s g b c : Int) (w : World) (hg : tg s g b c = false) :
    Calls Try.prog 11 #[.agg #[.int .i64 s, .int .i64 g, .int .i64 b, .int .i64 c]] w fun e w' => e = .returned (.int .i64 0) ∧ Below w.heap.size w w' := by
  have HB := Lib.hid ((Below.refl _ w).alloc (Nat.le_refl _) (.cells #[.int .i64 s, .int .i64 g, .int .i64 b, .int .i64 c] 23))
  have hG := fun w => good_ok s g b c w
  rw [hg] at hG
  have HG := Lib.hid hG
  clear hG hg
  go_enter Try.func11, Try.ntmps11
  go_wp2_with (go_at_call 10; (with_reducible refine Calls.mono (HG.out _) ?_); rintro e w2 ⟨rfl, hb⟩; have HB2 := Lib.hid (HB.out.trans (hb.mono HB.out.size)); clear hb)
  go_ret
  exact ⟨rfl, HB2.out⟩
theorem delay_good (s g b c : Int) (w : World) (hg : tg s g b c = true) :
    Calls Try.prog 12 #[.agg #[.int .i64 s, .int .i64 g, .int .i64 b, .int .i64 c]] w fun e w' => e = .returned (.int .i64 (dely s g b c)) ∧ Below w.heap.size w w' := by
  have HB := Lib.hid ((Below.refl _ w).alloc (Nat.le_refl _) (.cells #[.int .i64 s, .int .i64 g, .int .i64 b, .int .i64 c] 23))
  have HX := Lib.hid (Blk.new w 23 #[.int .i64 s, .int .i64 g, .int .i64 b, .int .i64 c])
  have hh := tg_iff.1 hg
  obtain ⟨⟨a1, a2⟩, ⟨a3, a4⟩, ⟨a5, a6⟩, ⟨a7, a8⟩, a9⟩ := hh
  have hG := fun w => good_ok s g b c w
  rw [hg] at hG
  have HG := Lib.hid hG
  clear hG hg
  unfold dely
  go_enter Try.func12, Try.ntmps12
  go_wp2_with (first
    | (go_at_call 10; (with_reducible refine Calls.mono (HG.out _) ?_); rintro e w2 ⟨rfl, hb⟩; have HB2 := Lib.hid (HB.out.trans (hb.mono HB.out.size)); have HX2 := Lib.hid (HX.out.keeps hb); clear hb; obtain ⟨x0, x1, x2, x3⟩ := cells4 HX2.out)
    | (go_at_call 26; (with_reducible refine Calls.mono (floor_ok _ _ (by omega) (by omega)) ?_); rintro e w3 ⟨rfl, hb⟩; have HB3 := Lib.hid (HB2.out.trans (hb.mono HB2.out.size)); clear hb))
  go_ret
  exact ⟨by rw [show c - s - b + g = c - s - (b - g) by omega]; rfl, HB3.out⟩
theorem delay_bad (s g b c : Int) (w : World) (hg : tg s g b c = false) :
    Calls Try.prog 12 #[.agg #[.int .i64 s, .int .i64 g, .int .i64 b, .int .i64 c]] w fun e w' => e = .returned (.int .i64 0) ∧ Below w.heap.size w w' := by
  have HB := Lib.hid ((Below.refl _ w).alloc (Nat.le_refl _) (.cells #[.int .i64 s, .int .i64 g, .int .i64 b, .int .i64 c] 23))
  have hG := fun w => good_ok s g b c w
  rw [hg] at hG
  have HG := Lib.hid hG
  clear hG hg
  go_enter Try.func12, Try.ntmps12
  go_wp2_with (go_at_call 10; (with_reducible refine Calls.mono (HG.out _) ?_); rintro e w2 ⟨rfl, hb⟩; have HB2 := Lib.hid (HB.out.trans (hb.mono HB.out.size)); clear hb)
  go_ret
  exact ⟨rfl, HB2.out⟩
theorem roffset_ok (s g b c : Int) (w : World) (hg : tg s g b c = true) :
    Calls Try.prog 13 #[.int .i64 s, .int .i64 g, .int .i64 b, .int .i64 c] w fun e w' => e = .returned (.int .i64 (offs s g b c)) ∧ Below w.heap.size w w' := by
  have hh := tg_iff.1 hg
  obtain ⟨⟨a1, a2⟩, ⟨a3, a4⟩, ⟨a5, a6⟩, ⟨a7, a8⟩, a9⟩ := hh
  clear hg
  unfold offs
  go_enter Try.func13, Try.ntmps13
  go_wp2_with (go_at_call 27; (with_reducible refine Calls.mono (rfloor_ok _ _ (by omega) (by omega)) ?_); rintro e w3 ⟨rfl, hb⟩; have HB3 := Lib.hid hb; clear hb)
  go_ret
  exact ⟨rfl, HB3.out⟩
theorem rdelay_ok (s g b c : Int) (w : World) (hg : tg s g b c = true) :
    Calls Try.prog 14 #[.int .i64 s, .int .i64 g, .int .i64 b, .int .i64 c] w fun e w' => e = .returned (.int .i64 (dely s g b c)) ∧ Below w.heap.size w w' := by
  have hh := tg_iff.1 hg
  obtain ⟨⟨a1, a2⟩, ⟨a3, a4⟩, ⟨a5, a6⟩, ⟨a7, a8⟩, a9⟩ := hh
  clear hg
  unfold dely
  go_enter Try.func14, Try.ntmps14
  go_wp2_with (go_at_call 27; (with_reducible refine Calls.mono (rfloor_ok _ _ (by omega) (by omega)) ?_); rintro e w3 ⟨rfl, hb⟩; have HB3 := Lib.hid hb; clear hb)
  go_ret
  exact ⟨rfl, HB3.out⟩
theorem rgood_ok (s g b c : Int) (w : World) :
    Calls Try.prog 9 #[.int .i64 s, .int .i64 g, .int .i64 b, .int .i64 c] w fun e w' => e = .returned (.bool (tg s g b c)) ∧ w = w' := by
  by_cases hg : tg s g b c = true
  · have hh := tg_iff.1 hg
    obtain ⟨⟨a1, a2⟩, ⟨a3, a4⟩, ⟨a5, a6⟩, ⟨a7, a8⟩, a9⟩ := hh
    have HG := Lib.hid hg
    clear hg
    go_enter Try.func9, Try.ntmps9
    go_wp2
    go_ret
    exact ⟨by rw [HG.out]; first | rfl | (simp; omega), rfl⟩
  · have hg2 : tg s g b c = false := by simpa using hg
    have hh := mt tg_iff.2 hg
    have HG := Lib.hid hg2
    clear hg hg2
    by_cases h1 : 0 ≤ s
    rotate_left
    · clear hh
      go_enter Try.func9, Try.ntmps9
      go_wp2
      go_ret
      exact ⟨by rw [HG.out]; first | rfl | (simp; omega), rfl⟩
    by_cases h2 : s ≤ 1125899906842624
    rotate_left
    · clear hh
      go_enter Try.func9, Try.ntmps9
      go_wp2
      go_ret
      exact ⟨by rw [HG.out]; first | rfl | (simp; omega), rfl⟩
    by_cases h3 : 0 ≤ g
    rotate_left
    · clear hh
      go_enter Try.func9, Try.ntmps9
      go_wp2
      go_ret
      exact ⟨by rw [HG.out]; first | rfl | (simp; omega), rfl⟩
    by_cases h4 : g ≤ 1125899906842624
    rotate_left
    · clear hh
      go_enter Try.func9, Try.ntmps9
      go_wp2
      go_ret
      exact ⟨by rw [HG.out]; first | rfl | (simp; omega), rfl⟩
    by_cases h5 : 0 ≤ b
    rotate_left
    · clear hh
      go_enter Try.func9, Try.ntmps9
      go_wp2
      go_ret
      exact ⟨by rw [HG.out]; first | rfl | (simp; omega), rfl⟩
    by_cases h6 : b ≤ 1125899906842624
    rotate_left
    · clear hh
      go_enter Try.func9, Try.ntmps9
      go_wp2
      go_ret
      exact ⟨by rw [HG.out]; first | rfl | (simp; omega), rfl⟩
    by_cases h7 : 0 ≤ c
    rotate_left
    · clear hh
      go_enter Try.func9, Try.ntmps9
      go_wp2
      go_ret
      exact ⟨by rw [HG.out]; first | rfl | (simp; omega), rfl⟩
    by_cases h8 : c ≤ 1125899906842624
    rotate_left
    · clear hh
      go_enter Try.func9, Try.ntmps9
      go_wp2
      go_ret
      exact ⟨by rw [HG.out]; first | rfl | (simp; omega), rfl⟩
    have h9 : c < s := by omega
    clear hh
    go_enter Try.func9, Try.ntmps9
    go_wp2
    go_ret
    exact ⟨by rw [HG.out]; first | rfl | (simp; omega), rfl⟩
end Go.Proofs.Ythnnejflgbminab.Tm
