/- A node and its marks as one thing; elect's functions over it; alive. -/
import Derived.Test.YthnnejflgbminaaEl6
namespace Go.Proofs.Ythnnejflgbminaa.El
open Go.RowKit Go.Proofs.Ythnnejflgbminaa.Bk Go.Proofs.Ythnnejflgbminaa.Rw Go.Proofs.Ythnnejflgbminaa.Ow Go.Proofs.Ythnnejflgbminaa.Kp Go.Proofs.Ythnnejflgbminaa.Sq Go.Proofs.Ythnnejflgbminaa.Ck Go.Proofs.Ythnnejflgbminaa.Ck2 Go.Proofs.Ythnnejflgbminaa.Mp

/-- A node at p with its marks at bm. -/
structure Ob (w : World) (p bm n : Nat) (me t g : Int) (s : St) (f : Int → Option (Int × Int)) : Prop where
  nd : Nd w p me t g s bm
  mp : Mp w bm n f
/-- What always holds of a state. -/
structure StOk (me t g : Int) (s : St) : Prop where
  r0 : -1 ≤ s.root
  r1 : s.root ≤ me
  b0 : 0 ≤ s.beats
  b1 : s.beats < t
  q0 : 0 ≤ s.quiet
  q1 : s.quiet ≤ g
/-- What rules and numbers are good. -/
structure RuOk (me t g : Int) : Prop where
  m0 : 0 ≤ me
  m1 : me ≤ 63
  t0 : 1 ≤ t
  t1 : t ≤ 1000
  g0 : 0 ≤ g
  g1 : g ≤ 1000
variable {w w' : World} {p bm n : Nat} {me t g : Int} {s : St} {f : Int → Option (Int × Int)}
theorem Ob.alloc (h : Ob w p bm n me t g s f) (o : Obj) : Ob (w.alloc o) p bm n me t g s f := ⟨h.nd.alloc o, h.mp.alloc o⟩
theorem Ob.drew (h : Ob w p bm n me t g s f) : Ob w.drew p bm n me t g s f := ⟨h.nd.drew, h.mp.drew⟩
theorem Ob.kp {S : Nat → Prop} (h : Ob w p bm n me t g s f) (hk : Kp S w w') (h1 : ¬ S p) (h2 : ¬ S bm) : Ob w' p bm n me t g s f := ⟨blk_kp h.nd hk h1, h.mp.kp hk h2⟩
theorem Ob.below (h : Ob w p bm n me t g s f) (hb : Below w.heap.size w w') : Ob w' p bm n me t g s f := ⟨h.nd.keeps hb, h.mp.of_heap (hb.block _ h.mp.lt)⟩
theorem Ob.ne (h : Ob w p bm n me t g s f) : bm ≠ p := h.mp.blk_ne h.nd

theorem RuOk.gd (h : RuOk me t g) : gd t g = true := by
  obtain ⟨_, _, h1, h2, h3, h4⟩ := h
  simp [El.gd, h1, h2, h3, h4]
theorem StOk.st0 (h : RuOk me t g) (b : Int) : StOk me t g (st0 b) := by
  obtain ⟨_, _, h1, h2, h3, h4⟩ := h
  constructor <;> simp [El.st0] <;> omega
theorem StOk.beat (h : StOk me t g s) (hr : RuOk me t g) : StOk me t g (beat me t g s).2 := by
  obtain ⟨h1, h2, h3, h4, h5, h6⟩ := h
  obtain ⟨_, _, r1, r2, r3, r4⟩ := hr
  unfold El.beat
  split
  · constructor <;> simp <;> omega
  · split
    · constructor <;> simp <;> omega
    · constructor <;> simp <;> omega
theorem mayb_lt {r : Int} (h : mayb me s r = true) : 0 ≤ r ∧ r < me := by
  unfold mayb at h
  split at h
  · cases h
  · omega
theorem StOk.hear {r : Int} {m : Int × Int} (h : StOk me t g s) (hr : RuOk me t g) : StOk me t g (hear me s f r m).2.1 := by
  obtain ⟨h1, h2, h3, h4, h5, h6⟩ := h
  obtain ⟨_, _, r1, r2, r3, r4⟩ := hr
  unfold El.hear
  by_cases hm : takes me s f r m = true
  · rw [if_pos hm]
    unfold takes at hm
    rw [Bool.and_eq_true] at hm
    have := mayb_lt hm.1
    constructor <;> dsimp only <;> omega
  · rw [if_neg hm]
    exact ⟨h1, h2, h3, h4, h5, h6⟩
theorem StOk.issue (h : StOk me t g s) : StOk me t g (issue me s).2.2 := by
  obtain ⟨h1, h2, h3, h4, h5, h6⟩ := h
  unfold El.issue
  split
  · constructor <;> simp <;> omega
  · constructor <;> simp <;> omega

theorem ob_hear (r x y : Int) (h : Ob w p bm n me t g s f) (hn2 : n < maxLen) (hr : -9223372036854775808 ≤ r ∧ r ≤ 9223372036854775807) :
    Calls Try.prog 10 #[.pointer (some ⟨p, 0, none⟩), .int .i64 r, .agg #[.int .u16 x, .int .u16 y]] w fun e w' => e = .returned (.int .i64 (hear me s f r (x, y)).1) ∧ Ob w' p bm (n + 1) me t g (hear me s f r (x, y)).2.1 (hear me s f r (x, y)).2.2 ∧ Kp (fun k => k = p ∨ k = bm) w w' :=
  (hear_ok p bm n f me t g r (x, y) s w h.nd h.mp hn2 hr).mono fun _ _ ⟨he, h1, h2, h3⟩ => ⟨he, ⟨h1, h2⟩, h3⟩
theorem ob_beat (h : Ob w p bm n me t g s f) (hr : RuOk me t g) (hs : StOk me t g s) :
    Calls Try.prog 12 #[.pointer (some ⟨p, 0, none⟩)] w fun e w' => e = .returned (.bool (beat me t g s).1) ∧ Ob w' p bm n me t g (beat me t g s).2 f ∧ Kp (fun k => k = p ∨ k = bm) w w' :=
  (beat_ok p bm me t g s w h.nd ⟨hs.q0, Int.le_trans hs.q1 hr.g1⟩ ⟨hs.b0, Int.le_trans (Int.le_of_lt hs.b1) hr.t1⟩).mono fun _ _ ⟨he, h1, h2⟩ => ⟨he, ⟨h1, h.mp.kp h2 h.ne⟩, h2.mono fun _ _ hk => .inl hk⟩
theorem ob_mark (h : Ob w p bm n me t g s f) (hr : RuOk me t g) (hs : StOk me t g s) :
    Calls Try.prog 17 #[.pointer (some ⟨p, 0, none⟩)] w fun e w' => e = .returned (.tuple #[.agg #[.int .u16 (mark me s f).1.1, .int .u16 (mark me s f).1.2], .bool (mark me s f).2]) ∧ Ob w' p bm n me t g s f ∧ Below w.heap.size w w' :=
  (mark_ok p bm n f me t g s w h.nd h.mp (by have := hs.r1; have := hr.m1; omega)).mono fun _ _ ⟨he, hb⟩ => ⟨he, h.below hb, hb⟩
theorem ob_issue (h : Ob w p bm n me t g s f) :
    Calls Try.prog 16 #[.pointer (some ⟨p, 0, none⟩)] w fun e w' => e = .returned (.tuple #[.agg #[.int .u16 (issue me s).1.1, .int .u16 (issue me s).1.2], .bool (issue me s).2.1]) ∧ Ob w' p bm n me t g (issue me s).2.2 f ∧ Kp (fun k => k = p ∨ k = bm) w w' :=
  (issue_ok p bm me t g s w h.nd).mono fun _ _ ⟨he, h1, h2⟩ => ⟨he, ⟨h1, h.mp.kp h2 h.ne⟩, h2.mono fun _ _ hk => .inl hk⟩
theorem ob_boot (b : Int) (h : Ob w p bm n me t g s f) :
    Calls Try.prog 13 #[.pointer (some ⟨p, 0, none⟩), .int .u16 b] w fun e w' => e = .returned (.tuple #[]) ∧ ∃ bm', Ob w' p bm' 0 me t g (st0 b) (fun _ => none) ∧ w.heap.size ≤ bm' ∧ Kp (fun k => k = p) w w' :=
  (boot_ok p me t g _ _ _ _ _ b _ w h.nd).mono fun _ _ ⟨he, bm', h1, h2, h3, h4⟩ => ⟨he, bm', ⟨h1, h2⟩, h3, h4⟩
theorem ob_new (w : World) (hr : RuOk me t g) :
    Calls Try.prog 9 #[.int .i64 me, .agg #[.int .i64 t, .int .i64 g]] w fun e w' => ∃ p bm, e = .returned (.tuple #[.pointer (some ⟨p, 0, none⟩), .int .i64 0]) ∧ Ob w' p bm 0 me t g (st0 0) (fun _ => none) ∧ w.heap.size ≤ p ∧ w.heap.size ≤ bm ∧ Below w.heap.size w w' :=
  (new_ok me t g w hr.m0 hr.m1 hr.gd).mono fun _ _ ⟨p, bm, he, h1, h2, h3, h4, h5⟩ => ⟨p, bm, he, ⟨h1, h2⟩, h3, h4, h5⟩
theorem ob_root (h : Ob w p bm n me t g s f) : Calls Try.prog 15 #[.pointer (some ⟨p, 0, none⟩)] w fun e w' => e = .returned (.int .i64 s.root) ∧ w = w' := root_ok p bm me t g s w h.nd
theorem ob_mine (h : Ob w p bm n me t g s f) : Calls Try.prog 14 #[.pointer (some ⟨p, 0, none⟩)] w fun e w' => e = .returned (.bool (s.root == me)) ∧ w' = w.drew := mine_ok p bm me t g s w h.nd
theorem RuOk.of (h : ¬ ((me < 0 ∨ 63 < me) ∨ El.gd t g = false)) : RuOk me t g := by
  simp only [El.gd, not_or, Bool.not_eq_false, Bool.and_eq_true, decide_eq_true_eq] at h
  obtain ⟨h1, ⟨⟨h2, h3⟩, h4⟩, h5⟩ := h
  constructor <;> omega

set_option maxRecDepth 100000 in
theorem alive_ok (w : World) : Calls Try.prog 8 #[] w fun e w' => e = .returned (.bool true) ∧ Below w.heap.size w w' := by
  have hru : RuOk 5 2 0 := by constructor <;> decide
  have N0 := Lib.hid (fun w => ob_new w hru)
  have hs0 : StOk 5 2 0 ⟨0, 0, 3, 0, 0⟩ := by constructor <;> decide
  have hs1 : StOk 5 2 0 ⟨0, 0, 3, 1, 0⟩ := by constructor <;> decide
  have C1 := Lib.hid (fun p bm w (h : Ob w p bm 0 5 2 0 (st0 0) (fun _ => none)) => show Calls Try.prog 10 #[.pointer (some ⟨p, 0, none⟩), .int .i64 7, .agg #[.int .u16 0, .int .u16 1]] w fun e w' => e = .returned (.int .i64 0) ∧ Ob w' p bm 1 5 2 0 (st0 0) (fun _ => none) ∧ Kp (fun k => k = p ∨ k = bm) w w' from ob_hear 7 0 1 h (by decide) (by decide))
  have C2 := Lib.hid (fun p bm w (h : Ob w p bm 1 5 2 0 (st0 0) (fun _ => none)) => show Calls Try.prog 10 #[.pointer (some ⟨p, 0, none⟩), .int .i64 3, .agg #[.int .u16 0, .int .u16 1]] w fun e w' => e = .returned (.int .i64 2) ∧ Ob w' p bm 2 5 2 0 ⟨0, 0, 3, 0, 0⟩ (put (fun _ => none) 3 (0, 1)) ∧ Kp (fun k => k = p ∨ k = bm) w w' from ob_hear 3 0 1 h (by decide) (by decide))
  have C3 := Lib.hid (fun p bm w (h : Ob w p bm 2 5 2 0 ⟨0, 0, 3, 0, 0⟩ (put (fun _ => none) 3 (0, 1))) => show Calls Try.prog 12 #[.pointer (some ⟨p, 0, none⟩)] w fun e w' => e = .returned (.bool false) ∧ Ob w' p bm 2 5 2 0 ⟨0, 0, 3, 1, 0⟩ (put (fun _ => none) 3 (0, 1)) ∧ Kp (fun k => k = p ∨ k = bm) w w' from ob_beat h hru hs0)
  have C4 := Lib.hid (fun p bm w (h : Ob w p bm 2 5 2 0 ⟨0, 0, 3, 1, 0⟩ (put (fun _ => none) 3 (0, 1))) => show Calls Try.prog 12 #[.pointer (some ⟨p, 0, none⟩)] w fun e w' => e = .returned (.bool true) ∧ Ob w' p bm 2 5 2 0 ⟨0, 0, 5, 0, 0⟩ (put (fun _ => none) 3 (0, 1)) ∧ Kp (fun k => k = p ∨ k = bm) w w' from ob_beat h hru hs1)
  clear hru hs0 hs1
  go_enter Try.func8, Try.ntmps8
  go_wp2_with fail
  refine (N0.out _).mono ?_
  rintro e w1 ⟨p, bm, rfl, ho, hp, hbm, hb⟩
  have H1 := Lib.hid ho
  have HB1 := Lib.hid hb
  clear ho hb
  go_wp2_with fail
  refine (C1.out p bm _ H1.out).mono ?_
  rintro e w2 ⟨rfl, ho, hk⟩
  have H2 := Lib.hid ho
  have HB2 := Lib.hid (below_kp HB1.out HB1.out.size hk (fun k hk => by omega))
  clear ho hk
  go_wp2_with fail
  refine (C2.out p bm _ H2.out).mono ?_
  rintro e w3 ⟨rfl, ho, hk⟩
  have H3 := Lib.hid ho
  have HB3 := Lib.hid (below_kp HB2.out HB2.out.size hk (fun k hk => by omega))
  clear ho hk
  go_wp2_with (go_at_call 15; (with_reducible refine Calls.mono (ob_root H3.out) ?_); rintro e w4 ⟨rfl, rfl⟩)
  refine (C3.out p bm _ H3.out).mono ?_
  rintro e w5 ⟨rfl, ho, hk⟩
  have H5 := Lib.hid ho
  have HB5 := Lib.hid (below_kp HB3.out HB3.out.size hk (fun k hk => by omega))
  clear ho hk
  go_wp2_with fail
  refine (C4.out p bm _ H5.out).mono ?_
  rintro e w6 ⟨rfl, ho, hk⟩
  have H6 := Lib.hid ho
  have HB6 := Lib.hid (below_kp HB5.out HB5.out.size hk (fun k hk => by omega))
  clear ho hk
  go_wp2_with (go_at_call 14; (with_reducible refine Calls.mono (ob_mine H6.out) ?_); rintro e w7 ⟨rfl, rfl⟩)
  go_ret
  exact ⟨by first | rfl | decide, below_drew HB6.out⟩
end Go.Proofs.Ythnnejflgbminaa.El
