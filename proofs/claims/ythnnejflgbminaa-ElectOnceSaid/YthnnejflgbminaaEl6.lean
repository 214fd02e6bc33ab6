/- Hear as one contract; Beat as one. -/
import Derived.Test.YthnnejflgbminaaEl5
namespace Go.Proofs.Ythnnejflgbminaa.El
open Go.RowKit Go.Proofs.Ythnnejflgbminaa.Bk Go.Proofs.Ythnnejflgbminaa.Rw Go.Proofs.Ythnnejflgbminaa.Ow Go.Proofs.Ythnnejflgbminaa.Kp Go.Proofs.Ythnnejflgbminaa.Sq Go.Proofs.Ythnnejflgbminaa.Ck Go.Proofs.Ythnnejflgbminaa.Ck2 Go.Proofs.Ythnnejflgbminaa.Mp

/-- Whether a word is taken. -/
def takes (me : Int) (s : St) (f : Int → Option (Int × Int)) (r : Int) (m : Int × Int) : Bool :=
  mayb me s r && (match f r with | some o => nwm m o | none => true)
/-- Hear: the answer, the state and the marks behind. -/
def hear (me : Int) (s : St) (f : Int → Option (Int × Int)) (r : Int) (m : Int × Int) : Int × St × (Int → Option (Int × Int)) :=
  if takes me s f r m then (hmv s r m ((f r).getD (0, 0)), { s with root := r, beats := 0, quiet := 0 }, put f r m) else (0, s, f)
theorem hear_ok (p bm n : Nat) (f : Int → Option (Int × Int)) (me t g r : Int) (m : Int × Int) (s : St) (w : World) (h : Nd w p me t g s bm) (hf : Mp w bm n f) (hn2 : n < maxLen) (hr : -9223372036854775808 ≤ r ∧ r ≤ 9223372036854775807) :
    Calls Try.prog 10 #[.pointer (some ⟨p, 0, none⟩), .int .i64 r, mk m] w fun e w' => e = .returned (.int .i64 (hear me s f r m).1) ∧ Nd w' p me t g (hear me s f r m).2.1 bm ∧ Mp w' bm (n + 1) (hear me s f r m).2.2 ∧ Kp (fun k => k = p ∨ k = bm) w w' := by
  unfold hear takes
  rcases hm : mayb me s r with _ | _
  · simp only [Bool.false_and, Bool.false_eq_true, if_false]
    exact (hear_no1 p bm me t g r m s w h hm).mono fun e w' ⟨he, hb⟩ => ⟨he, h.keeps hb, (hf.of_heap (hb.block _ hf.lt)).mono (Nat.le_succ _), Kp.of_below hb⟩
  · rcases ho : f r with _ | o
    · simp only [Bool.and_true, if_true, Option.getD_none]
      exact hear_yes0 p bm n f me t g r m s w h hf hn2 hr hm ho
    · have h2 : nwm m o = false ∨ nwm m o = true := by cases nwm m o <;> simp
      rcases h2 with hn | hn
      · simp only [hn, Bool.and_false, Bool.false_eq_true, if_false]
        exact (hear_no2 p bm n f me t g r m o s w h hf hr hm ho hn).mono fun e w' ⟨he, hb⟩ => ⟨he, h.keeps hb, (hf.of_heap (hb.block _ hf.lt)).mono (Nat.le_succ _), Kp.of_below hb⟩
      · simp only [hn, Bool.and_true, if_true, Option.getD_some]
        exact hear_yes1 p bm n f me t g r m o s w h hf hn2 hr hm ho hn
theorem beat_ok (p bm : Nat) (me t g : Int) (s : St) (w : World) (h : Nd w p me t g s bm) (hq : 0 ≤ s.quiet ∧ s.quiet ≤ 1000) (hb : 0 ≤ s.beats ∧ s.beats ≤ 1000) :
    Calls Try.prog 12 #[.pointer (some ⟨p, 0, none⟩)] w fun e w' => e = .returned (.bool (beat me t g s).1) ∧ Nd w' p me t g (beat me t g s).2 bm ∧ Kp (fun k => k = p) w w' := by
  rcases hm : s.root == me with _ | _
  · by_cases ht : s.beats + 1 < t
    · exact beat_wait p bm me t g s w h hm hb ht
    · exact beat_rise p bm me t g s w h hm hb ht
  · exact beat_mine p bm me t g s w h hm hq
/-- Mark's answer. -/
def mark (me : Int) (s : St) (f : Int → Option (Int × Int)) : (Int × Int) × Bool :=
  if s.root < 0 then ((0, 0), false) else if (s.root == me) = true then ((s.boot, s.seq), decide (0 < s.seq)) else ((f s.root).getD (0, 0), true)
theorem mark_ok (p bm n : Nat) (f : Int → Option (Int × Int)) (me t g : Int) (s : St) (w : World) (h : Nd w p me t g s bm) (hf : Mp w bm n f) (hr : s.root ≤ 9223372036854775807) :
    Calls Try.prog 17 #[.pointer (some ⟨p, 0, none⟩)] w fun e w' => e = .returned (.tuple #[mk (mark me s f).1, .bool (mark me s f).2]) ∧ Below w.heap.size w w' := by
  unfold mark
  by_cases h0 : s.root < 0
  · rw [if_pos h0]
    exact mark_no p bm me t g s w h h0
  · rw [if_neg h0]
    by_cases hm : (s.root == me) = true
    · rw [if_pos hm]
      exact mark_own p bm me t g s w h h0 hm
    · rw [if_neg hm]
      exact mark_heard p bm n f me t g s w h hf h0 hr (by simpa using hm)
/-- Issue: the answer and the state behind. -/
def issue (me : Int) (s : St) : (Int × Int) × Bool × St :=
  if (s.root == me) = true then ((s.boot, IntKind.u16.wrap (s.seq + 1)), true, { s with seq := IntKind.u16.wrap (s.seq + 1) }) else ((0, 0), false, s)
theorem issue_ok (p bm : Nat) (me t g : Int) (s : St) (w : World) (h : Nd w p me t g s bm) :
    Calls Try.prog 16 #[.pointer (some ⟨p, 0, none⟩)] w fun e w' => e = .returned (.tuple #[mk (issue me s).1, .bool (issue me s).2.1]) ∧ Nd w' p me t g (issue me s).2.2 bm ∧ Kp (fun k => k = p) w w' := by
  unfold issue
  by_cases hm : (s.root == me) = true
  · rw [if_pos hm]
    exact issue_yes p bm me t g s w h hm
  · rw [if_neg hm]
    exact (issue_no p bm me t g s w h (by simpa using hm)).mono fun e w' ⟨he, hb⟩ => ⟨he, h.keeps hb, Kp.of_below hb⟩
end Go.Proofs.Ythnnejflgbminaa.El
