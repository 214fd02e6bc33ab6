/- What ElectWaits' script brings about, in plain Lean. -/
import Derived.Test.YthnnejflgbminaaOb
namespace Go.Proofs.Ythnnejflgbminaa.El
open Go.RowKit Go.Proofs.Ythnnejflgbminaa.Bk Go.Proofs.Ythnnejflgbminaa.Rw Go.Proofs.Ythnnejflgbminaa.Ow Go.Proofs.Ythnnejflgbminaa.Kp Go.Proofs.Ythnnejflgbminaa.Sq Go.Proofs.Ythnnejflgbminaa.Ck Go.Proofs.Ythnnejflgbminaa.Ck2 Go.Proofs.Ythnnejflgbminaa.Mp

theorem ob_hear_is {w : World} {p bm n : Nat} {me t g : Int} {s s' : St} {f f' : Int → Option (Int × Int)} {r x y v : Int} (h : Ob w p bm n me t g s f) (hn2 : n < maxLen) (hr : -9223372036854775808 ≤ r ∧ r ≤ 9223372036854775807) (he : hear me s f r (x, y) = (v, s', f')) :
    Calls Try.prog 10 #[.pointer (some ⟨p, 0, none⟩), .int .i64 r, .agg #[.int .u16 x, .int .u16 y]] w fun e w' => e = .returned (.int .i64 v) ∧ Ob w' p bm (n + 1) me t g s' f' ∧ Kp (fun k => k = p ∨ k = bm) w w' := by
  have := ob_hear r x y h hn2 hr
  rw [he] at this
  exact this
theorem ob_beat_is {w : World} {p bm n : Nat} {me t g : Int} {s s' : St} {f : Int → Option (Int × Int)} {v : Bool} (h : Ob w p bm n me t g s f) (hr : RuOk me t g) (hs : StOk me t g s) (he : beat me t g s = (v, s')) :
    Calls Try.prog 12 #[.pointer (some ⟨p, 0, none⟩)] w fun e w' => e = .returned (.bool v) ∧ Ob w' p bm n me t g s' f ∧ Kp (fun k => k = p ∨ k = bm) w w' := by
  have := ob_beat h hr hs
  rw [he] at this
  exact this

theorem ob_root_is {w : World} {p bm n : Nat} {me t g r : Int} {s : St} {f : Int → Option (Int × Int)} (h : Ob w p bm n me t g s f) (he : s.root = r) :
    Calls Try.prog 15 #[.pointer (some ⟨p, 0, none⟩)] w fun e w' => e = .returned (.int .i64 r) ∧ w = w' := he ▸ ob_root h
theorem hear_yes {me r : Int} {s : St} {f : Int → Option (Int × Int)} {m : Int × Int} (h : takes me s f r m = true) : ∃ v s', hear me s f r m = (v, s', put f r m) ∧ (v = 1 ∨ v = 2) ∧ s'.root = r := by
  unfold hear
  rw [if_pos h]
  refine ⟨_, _, rfl, ?_, rfl⟩
  unfold hmv
  split
  · right; rfl
  · left; rfl
theorem hear_not {me r : Int} {s : St} {f : Int → Option (Int × Int)} {m : Int × Int} (h : takes me s f r m = false) : hear me s f r m = (0, s, f) := by
  unfold hear
  rw [h]
  rfl
theorem takes_lt {me r : Int} {s : St} {f : Int → Option (Int × Int)} {m : Int × Int} (h : takes me s f r m = true) : 0 ≤ r ∧ r < me := by
  unfold takes at h
  rw [Bool.and_eq_true] at h
  exact mayb_lt h.1
theorem takes_le {me t g r : Int} {s : St} {f : Int → Option (Int × Int)} {m : Int × Int} (_hs : StOk me t g s) (h : takes me s f r m = true) (h0 : 0 ≤ s.root) : r ≤ s.root := by
  have hl := takes_lt h
  unfold takes mayb at h
  rw [if_neg (by omega), Bool.and_eq_true] at h
  have h1 := h.1
  by_cases he : s.root = me
  · omega
  · rw [if_neg (by simpa using he), Bool.or_eq_true, decide_eq_true_eq, decide_eq_true_eq] at h1
    omega
theorem beat_cases (me t g : Int) (s : St) : (∃ s', beat me t g s = (false, s') ∧ s'.root = s.root) ∨ (∃ s', beat me t g s = (true, s') ∧ s'.root = me ∧ me ≠ s.root) := by
  unfold beat
  split
  · exact .inl ⟨_, rfl, rfl⟩
  · rename_i hm
    split
    · exact .inl ⟨_, rfl, rfl⟩
    · exact .inr ⟨_, rfl, rfl, fun e => hm (by simp [e])⟩

theorem nw_self (x : Int) : nw x x = false := by simp [nw]; decide
theorem nwm_self (x : Int × Int) : nwm x x = false := by simp [nwm, nw_self]
theorem nwm_two (b : Int) : nwm (b, 2) (b, 1) = true := by simp [nwm]; right; decide
/-- The state ahead of round k. -/
def sw (me t g ro k : Int) : St := if k ≤ t then ⟨0, 0, ro, k - 1, 0⟩ else ⟨0, 0, me, 0, g⟩
structure Plan (me t g root boot ro v : Int) (f : Int → Option (Int × Int)) : Prop where
  h1 : hear me (st0 0) (fun _ => none) root (boot, 1) = (v, sw me t g ro 1, f)
  h2 : ∀ k, 1 ≤ k → k ≤ t → hear me (sw me t g ro k) f root (boot, 1) = (0, sw me t g ro k, f)
  s2 : ∀ k, 1 ≤ k → k ≤ t → StOk me t g (sw me t g ro k)
  b2 : ∀ k, 1 ≤ k → k ≤ t → beat me t g (sw me t g ro k) = (k == t, sw me t g ro (k + 1))
  h3 : ∀ j, 0 ≤ j → j < g → hear me ⟨0, 0, me, 0, g - j⟩ f root (boot, 2) = (0, ⟨0, 0, me, 0, g - j⟩, f)
  s3 : ∀ j, 0 ≤ j → j < g → StOk me t g ⟨0, 0, me, 0, g - j⟩
  b3 : ∀ j, 0 ≤ j → j < g → beat me t g ⟨0, 0, me, 0, g - j⟩ = (false, ⟨0, 0, me, 0, g - (j + 1)⟩)
  h4 : ∃ s' f', hear me ⟨0, 0, me, 0, g - g⟩ f root (boot, 2) = (v, s', f')
variable {me t g : Int}
theorem beat_sw (ro : Int) (_hr : RuOk me t g) (hro : ro < me) (k : Int) (_h1 : 1 ≤ k) (h2 : k ≤ t) : beat me t g (sw me t g ro k) = (k == t, sw me t g ro (k + 1)) := by
  have hm : (ro == me) = false := by simp; omega
  unfold sw
  rw [if_pos h2]
  by_cases hk : k = t
  · subst hk
    rw [if_neg (by omega)]
    simp [beat, hm]
  · rw [if_pos (by omega)]
    have : (k == t) = false := by simpa using hk
    rw [this]
    simp [beat, hm]
    omega
theorem ok_sw (ro : Int) (hr : RuOk me t g) (hro : ro < me) (hro2 : -1 ≤ ro) (k : Int) (h1 : 1 ≤ k) (h2 : k ≤ t) : StOk me t g (sw me t g ro k) := by
  obtain ⟨_, _, _, _, _, _⟩ := hr
  unfold sw
  rw [if_pos h2]
  constructor <;> dsimp only <;> omega
theorem beat_own (_hr : RuOk me t g) (j : Int) (_h0 : 0 ≤ j) (h1 : j < g) : beat me t g ⟨0, 0, me, 0, g - j⟩ = (false, ⟨0, 0, me, 0, g - (j + 1)⟩) := by
  simp [beat]
  omega
theorem ok_own (hr : RuOk me t g) (j : Int) (h0 : 0 ≤ j) (h1 : j < g) : StOk me t g ⟨0, 0, me, 0, g - j⟩ := by
  obtain ⟨_, _, _, _, _, _⟩ := hr
  constructor <;> dsimp only <;> omega
theorem no_may (root : Int) (s : St) (h : root < 0 ∨ me ≤ root) : mayb me s root = false := by
  unfold mayb
  rw [if_pos h]
theorem no_hear (f : Int → Option (Int × Int)) (root : Int) (m : Int × Int) (s : St) (h : mayb me s root = false) : hear me s f root m = (0, s, f) := by
  simp [hear, takes, h]
theorem plan_no (root boot : Int) (hr : RuOk me t g) (h : root < 0 ∨ me ≤ root) : Plan me t g root boot (-1) 0 (fun _ => none) := by
  have hm : -1 < me := by have := hr.m0; omega
  refine ⟨?_, fun k _ _ => no_hear _ _ _ _ (no_may _ _ h), ok_sw _ hr hm (by omega), beat_sw _ hr hm, fun _ _ _ => no_hear _ _ _ _ (no_may _ _ h), ok_own hr, beat_own hr, ⟨_, _, no_hear _ _ _ _ (no_may _ _ h)⟩⟩
  rw [no_hear _ _ _ _ (no_may _ _ h)]
  unfold sw
  rw [if_pos hr.t0]
  rfl
theorem plan_yes (root boot : Int) (hr : RuOk me t g) (h0 : ¬ root < 0) (h1 : ¬ me ≤ root) : Plan me t g root boot root 2 (put (fun _ => none) root (boot, 1)) := by
  have hm : root < me := by omega
  have hn : ¬ (root < 0 ∨ me ≤ root) := by omega
  have hq : (root == me) = false := by simp; omega
  have hp : put (fun _ => none) root (boot, 1) root = some (boot, 1) := by simp [put]
  have hg := hr.g0
  refine ⟨?_, fun k k1 k2 => ?_, ok_sw _ hr hm (by omega), beat_sw _ hr hm, fun j j0 j1 => ?_, ok_own hr, beat_own hr, ?_⟩
  · have hq2 : ((-1 : Int) == me) = false := by have := hr.m0; simp; omega
    have hq3 : ((-1 : Int) != root) = true := by simp; omega
    unfold sw
    rw [if_pos hr.t0]
    simp [hear, takes, mayb, st0, hn, hq2, hmv, hq3]
  · unfold sw
    rw [if_pos k2]
    unfold hear takes
    simp only [hp, nwm_self, Bool.and_false, Bool.false_eq_true, if_false]
  · apply no_hear
    unfold mayb
    rw [if_neg hn]
    simp
    omega
  · have hq3 : (me != root) = true := by simp; omega
    have ht : takes me ⟨0, 0, me, 0, g - g⟩ (put (fun _ => none) root (boot, 1)) root (boot, 2) = true := by
      unfold takes
      rw [hp]
      simp only [nwm_two, Bool.and_true]
      unfold mayb
      rw [if_neg hn]
      simp
    unfold hear
    rw [if_pos ht]
    simp [hmv, hq3]
end Go.Proofs.Ythnnejflgbminaa.El
