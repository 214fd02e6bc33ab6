/- The walks of elect's functions: may, Beat, Issue, Mark, Hear. -/
import Derived.Test.YthnnejflgbminaaEl
namespace Go.Proofs.Ythnnejflgbminaa.El
open Go.RowKit Go.Proofs.Ythnnejflgbminaa.Bk Go.Proofs.Ythnnejflgbminaa.Rw Go.Proofs.Ythnnejflgbminaa.Ow Go.Proofs.Ythnnejflgbminaa.Kp Go.Proofs.Ythnnejflgbminaa.Sq Go.Proofs.Ythnnejflgbminaa.Ck Go.Proofs.Ythnnejflgbminaa.Ck2 Go.Proofs.Ythnnejflgbminaa.Mp

def mayb (me : Int) (s : St) (r : Int) : Bool := if r < 0 ∨ me ≤ r then false else if s.root == me then s.quiet == 0 else decide (s.root < 0) || decide (r ≤ s.root)
theorem may_ok (p bm : Nat) (me t g r : Int) (s : St) (w : World) (h : Nd w p me t g s bm) : Calls Try.prog 25 #[.pointer (some ⟨p, 0, none⟩), .int .i64 r] w fun e w' => e = .returned (.bool (mayb me s r)) ∧ Below w.heap.size w w' := by
  have hx := cells9 h
  obtain ⟨⟨c0, c1, c2, c3, c4, c5, c6, c7, c8⟩, f0, f1, f2, f3, f4, f5, f6, f7, f8⟩ := hx
  have HM := Lib.hid (mine_ok p bm me t g s w h)
  have HB := Lib.hid (below_drew (Below.refl w.heap.size w))
  clear h c1 c2 c3 c4 c6 c8 f0 f1 f2 f3 f4 f5 f6 f7 f8
  unfold mayb
  by_cases k1 : r < 0
  · rw [if_pos (Or.inl k1)]
    go_enter Try.func25, Try.ntmps25
    go_wp2
    go_ret
    exact ⟨rfl, Below.refl _ _⟩
  by_cases k2 : me ≤ r
  · rw [if_pos (Or.inr k2)]
    go_enter Try.func25, Try.ntmps25
    go_wp2
    go_ret
    exact ⟨rfl, Below.refl _ _⟩
  rw [if_neg (by omega)]
  rcases hm : s.root == me with _ | _
  · rw [hm] at HM
    simp only [Bool.false_eq_true, if_false]
    by_cases k3 : s.root < 0
    · rw [decide_eq_true k3, Bool.true_or]
      go_enter Try.func25, Try.ntmps25
      go_wp2_with (go_at_call 14; (with_reducible refine Calls.mono HM.out ?_); rintro e w1 ⟨rfl, rfl⟩)
      go_ret
      exact ⟨rfl, HB.out⟩
    · go_enter Try.func25, Try.ntmps25
      go_wp2_with (go_at_call 14; (with_reducible refine Calls.mono HM.out ?_); rintro e w1 ⟨rfl, rfl⟩)
      go_ret
      exact ⟨rfl, HB.out⟩
  · rw [hm] at HM
    simp only [if_true]
    go_enter Try.func25, Try.ntmps25
    go_wp2_with (go_at_call 14; (with_reducible refine Calls.mono HM.out ?_); rintro e w1 ⟨rfl, rfl⟩)
    go_ret
    exact ⟨rfl, HB.out⟩

/-- Beat: whether it rises, and the state behind. -/
def beat (me t g : Int) (s : St) : Bool × St :=
  if s.root == me then (false, { s with quiet := max (s.quiet - 1) 0 })
  else if s.beats + 1 < t then (false, { s with beats := s.beats + 1 })
  else (true, { s with root := me, beats := 0, quiet := g })
theorem beat_nil (w : World) : Calls Try.prog 12 #[.pointer none] w fun e w' => e = .returned (.bool false) ∧ w = w' := by
  go_enter Try.func12, Try.ntmps12
  go_wp2
  go_ret
  exact ⟨rfl, rfl⟩
theorem ret_issue (Q : Ending → World → Prop) (a : Act) (W : World) (g : Nat) (x y : Int) (ok : Bool) (h2 : a.tmps.getD 2 undef = .pointer (some ⟨g, 0, none⟩)) (h3 : a.tmps.getD 3 undef = .bool ok) (hd : a.defers = [])
    (hb : Blk W g 32 #[.int .u16 x, .int .u16 y]) (hq : Q (.returned (.tuple #[mk (x, y), .bool ok])) W) : bodyPost Try.prog Try.f16 Q .ret a W := by
  have q0 : W.cell? ⟨g, 0, none⟩ = some (.int .u16 x) := hb.cell 0
  have q1 : W.cell? ⟨g, 1, none⟩ = some (.int .u16 y) := hb.cell 1
  obtain ⟨tmps, defers⟩ := a
  simp only at h2 h3 hd
  subst hd
  rw [Array.getD_eq_getD_getElem?] at h2 h3
  refine bodyPost_ret (v := .tuple #[mk (x, y), .bool ok]) ?_ rfl hq
  simp [results, Try.results16, go_sem, h2, h3, q0, q1]
theorem ret_mark (Q : Ending → World → Prop) (a : Act) (W : World) (g : Nat) (x y : Int) (ok : Bool) (h2 : a.tmps.getD 2 undef = .pointer (some ⟨g, 0, none⟩)) (h3 : a.tmps.getD 3 undef = .bool ok) (hd : a.defers = [])
    (hb : Blk W g 32 #[.int .u16 x, .int .u16 y]) (hq : Q (.returned (.tuple #[mk (x, y), .bool ok])) W) : bodyPost Try.prog Try.f17 Q .ret a W := by
  have q0 : W.cell? ⟨g, 0, none⟩ = some (.int .u16 x) := hb.cell 0
  have q1 : W.cell? ⟨g, 1, none⟩ = some (.int .u16 y) := hb.cell 1
  obtain ⟨tmps, defers⟩ := a
  simp only at h2 h3 hd
  subst hd
  rw [Array.getD_eq_getD_getElem?] at h2 h3
  refine bodyPost_ret (v := .tuple #[mk (x, y), .bool ok]) ?_ rfl hq
  simp [results, Try.results17, go_sem, h2, h3, q0, q1]
theorem issue_nil (w : World) : Calls Try.prog 16 #[.pointer none] w fun e w' => e = .returned (.tuple #[mk (0, 0), .bool false]) ∧ Below w.heap.size w w' := by
  have HB := Lib.hid (below_drew ((Below.refl w.heap.size w).alloc (Nat.le_refl _) (.cells #[.int .u16 0, .int .u16 0] 32)))
  go_enter Try.func16, Try.ntmps16
  go_wp2_with (go_at_call 14; (with_reducible refine Calls.mono (mine_nil _) ?_); rintro e w1 ⟨rfl, rfl⟩)
  exact ret_issue _ _ _ w.heap.size 0 0 false rfl rfl rfl (Blk.new _ _ _).drew ⟨rfl, HB.out⟩
theorem issue_no (p bm : Nat) (me t g : Int) (s : St) (w : World) (h : Nd w p me t g s bm) (hm : (s.root == me) = false) : Calls Try.prog 16 #[.pointer (some ⟨p, 0, none⟩)] w fun e w' => e = .returned (.tuple #[mk (0, 0), .bool false]) ∧ Below w.heap.size w w' := by
  have HB := Lib.hid (below_drew ((Below.refl w.heap.size w).alloc (Nat.le_refl _) (.cells #[.int .u16 0, .int .u16 0] 32)))
  have HM := Lib.hid (hm ▸ mine_ok p bm me t g s _ (h.alloc (.cells #[.int .u16 0, .int .u16 0] 32)))
  clear h hm
  go_enter Try.func16, Try.ntmps16
  go_wp2_with (go_at_call 14; (with_reducible refine Calls.mono HM.out ?_); rintro e w1 ⟨rfl, rfl⟩)
  exact ret_issue _ _ _ w.heap.size 0 0 false rfl rfl rfl (Blk.new _ _ _).drew ⟨rfl, HB.out⟩
theorem mark_nil (w : World) : Calls Try.prog 17 #[.pointer none] w fun e w' => e = .returned (.tuple #[mk (0, 0), .bool false]) ∧ Below w.heap.size w w' := by
  have HB := Lib.hid ((Below.refl w.heap.size w).alloc (Nat.le_refl _) (.cells #[.int .u16 0, .int .u16 0] 32))
  go_enter Try.func17, Try.ntmps17
  go_wp2
  exact ret_mark _ _ _ w.heap.size 0 0 false rfl rfl rfl (Blk.new _ _ _) ⟨rfl, HB.out⟩
theorem mark_no (p bm : Nat) (me t g : Int) (s : St) (w : World) (h : Nd w p me t g s bm) (hm : s.root < 0) : Calls Try.prog 17 #[.pointer (some ⟨p, 0, none⟩)] w fun e w' => e = .returned (.tuple #[mk (0, 0), .bool false]) ∧ Below w.heap.size w w' := by
  have HB := Lib.hid ((Below.refl w.heap.size w).alloc (Nat.le_refl _) (.cells #[.int .u16 0, .int .u16 0] 32))
  have c : (w.alloc (.cells #[.int .u16 0, .int .u16 0] 32)).cell? ⟨p, 5, none⟩ = some (.int .i64 s.root) := (h.alloc _).cell 5
  clear h
  go_enter Try.func17, Try.ntmps17
  go_wp2
  exact ret_mark _ _ _ w.heap.size 0 0 false rfl rfl rfl (Blk.new _ _ _) ⟨rfl, HB.out⟩
theorem beat_mine (p bm : Nat) (me t g : Int) (s : St) (w : World) (h : Nd w p me t g s bm) (hm : (s.root == me) = true) (hq : 0 ≤ s.quiet ∧ s.quiet ≤ 1000) :
    Calls Try.prog 12 #[.pointer (some ⟨p, 0, none⟩)] w fun e w' => e = .returned (.bool (beat me t g s).1) ∧ Nd w' p me t g (beat me t g s).2 bm ∧ Kp (fun k => k = p) w w' := by
  have HM := Lib.hid (hm ▸ mine_ok p bm me t g s _ h)
  have hb : beat me t g s = (false, { s with quiet := max (s.quiet - 1) 0 }) := by unfold beat; rw [if_pos hm]
  rw [hb]
  have HB := Lib.hid hb
  obtain ⟨sb, ss, sr, sbe, sq⟩ := s
  dsimp only at hq ⊢
  have hx := cells9 h.drew
  obtain ⟨⟨c0, c1, c2, c3, c4, c5, c6, c7, c8⟩, f0, f1, f2, f3, f4, f5, f6, f7, f8⟩ := hx
  have H := Lib.hid h.drew
  clear h hm hb HB
  go_enter Try.func12, Try.ntmps12
  go_wp2_with (go_at_call 14; (with_reducible refine Calls.mono HM.out ?_); rintro e w1 ⟨rfl, rfl⟩)
  all_goals
    go_ret
    have h : Nd w p me t g ⟨sb, ss, sr, sbe, sq⟩ bm := H.out
    refine ⟨rfl, ?_, ?_⟩
    · first
        | (rw [show max (sq - 1) 0 = 0 by omega]; ((repeat (first | (with_reducible assumption) | (with_reducible apply Blk.drew) | (with_reducible apply set_at2) | ((with_reducible apply set_far); (focus omega)) | (with_reducible apply Blk.alloc))); all_goals rfl))
        | (rw [show max (sq - 1) 0 = sq - 1 by omega]; ((repeat (first | (with_reducible assumption) | (with_reducible apply Blk.drew) | (with_reducible apply set_at2) | ((with_reducible apply set_far); (focus omega)) | (with_reducible apply Blk.alloc))); all_goals rfl))
    · (repeat (first | (with_reducible assumption) | (with_reducible apply Kp.drew) | ((with_reducible apply kp_set); (focus (first | exact .inl rfl | (right; (try simp only [size_set, size_drew, World.size_alloc]); omega)))) | (with_reducible apply Kp.alloc) | (with_reducible exact Kp.refl _ _)))
theorem beat_wait (p bm : Nat) (me t g : Int) (s : St) (w : World) (h : Nd w p me t g s bm) (hm : (s.root == me) = false) (hq : 0 ≤ s.beats ∧ s.beats ≤ 1000) (ht : s.beats + 1 < t) :
    Calls Try.prog 12 #[.pointer (some ⟨p, 0, none⟩)] w fun e w' => e = .returned (.bool (beat me t g s).1) ∧ Nd w' p me t g (beat me t g s).2 bm ∧ Kp (fun k => k = p) w w' := by
  have HM := Lib.hid (hm ▸ mine_ok p bm me t g s _ h)
  have hb : beat me t g s = (false, { s with beats := s.beats + 1 }) := by unfold beat; rw [if_neg (by rw [hm]; simp), if_pos ht]
  rw [hb]
  obtain ⟨sb, ss, sr, sbe, sq⟩ := s
  dsimp only at hq ht ⊢
  have hx := cells9 h.drew
  obtain ⟨⟨c0, c1, c2, c3, c4, c5, c6, c7, c8⟩, f0, f1, f2, f3, f4, f5, f6, f7, f8⟩ := hx
  have H := Lib.hid h.drew
  clear h hm hb
  go_enter Try.func12, Try.ntmps12
  go_wp2_with (go_at_call 14; (with_reducible refine Calls.mono HM.out ?_); rintro e w1 ⟨rfl, rfl⟩)
  have h1 : Nd (w.setCell ⟨p, 6, none⟩ (.int .i64 (sbe + 1))).drew p me t g ⟨sb, ss, sr, sbe + 1, sq⟩ bm := by
    have h : Nd w p me t g ⟨sb, ss, sr, sbe, sq⟩ bm := H.out
    ((repeat (first | (with_reducible assumption) | (with_reducible apply Blk.drew) | (with_reducible apply set_at2) | ((with_reducible apply set_far); (focus omega)) | (with_reducible apply Blk.alloc))); all_goals rfl)
  have hk : Kp (fun k => k = p) w (w.setCell ⟨p, 6, none⟩ (.int .i64 (sbe + 1))).drew := by (repeat (first | (with_reducible assumption) | (with_reducible apply Kp.drew) | ((with_reducible apply kp_set); (focus (first | exact .inl rfl | (right; (try simp only [size_set, size_drew, World.size_alloc]); omega)))) | (with_reducible apply Kp.alloc) | (with_reducible exact Kp.refl _ _)))
  generalize (w.setCell ⟨p, 6, none⟩ (.int .i64 (sbe + 1))).drew = w1 at h1 hk ⊢
  have HN := Lib.hid h1
  have HK := Lib.hid hk
  clear hk H c0 c1 c2 c3 c4 c5 c6 c7 c8 f0 f1 f2 f3 f4 f5 f6 f7 f8
  refine wp_region_seq [(0, true), (1, true), (2, true), (3, true), (4, true), (5, true), (6, true), (7, true), (8, true), (9, true)] (fun w' => w'.cell? ⟨p, 6, none⟩ = some (.int .i64 (sbe + 1)) ∧ w'.cell? ⟨p, 1, none⟩ = some (.int .i64 t)) (by kernel_rfl) (by kernel_rfl) ⟨h1.drew.cell 6, h1.drew.cell 1⟩ (fun hHeld => ?_)
  clear h1
  simp only [List.map_cons, List.map_nil, List.getElem?_toArray, List.getElem?_cons_zero, List.getElem?_cons_succ]
  repeat (first | (refine seq_skip (by rfl) ?_; try simp only [Act.put, List.setIfInBounds_toArray, List.set_cons_zero, List.set_cons_succ]) | (refine seq_not (by rfl) (by assumption) ?_; try simp only [Act.put, List.setIfInBounds_toArray, List.set_cons_zero, List.set_cons_succ]) | (refine seq_take (v := ?_) (by rfl) ?_ ?_; rotate_left; (focus ((intro w hSw; (try dsimp only at hSw); go_simp; (try with_reducible rfl)); done)); try simp only [Act.put, List.setIfInBounds_toArray, List.set_cons_zero, List.set_cons_succ]))
  refine seq_done ?_
  clear hHeld
  go_wp2
  go_ret
  exact ⟨rfl, HN.out.drew, HK.out.drew⟩
theorem beat_rise (p bm : Nat) (me t g : Int) (s : St) (w : World) (h : Nd w p me t g s bm) (hm : (s.root == me) = false) (hq : 0 ≤ s.beats ∧ s.beats ≤ 1000) (ht : ¬ s.beats + 1 < t) :
    Calls Try.prog 12 #[.pointer (some ⟨p, 0, none⟩)] w fun e w' => e = .returned (.bool (beat me t g s).1) ∧ Nd w' p me t g (beat me t g s).2 bm ∧ Kp (fun k => k = p) w w' := by
  have HM := Lib.hid (hm ▸ mine_ok p bm me t g s _ h)
  have hb : beat me t g s = (true, { s with root := me, beats := 0, quiet := g }) := by unfold beat; rw [if_neg (by rw [hm]; simp), if_neg ht]
  rw [hb]
  obtain ⟨sb, ss, sr, sbe, sq⟩ := s
  dsimp only at hq ht ⊢
  have hx := cells9 h.drew
  obtain ⟨⟨c0, c1, c2, c3, c4, c5, c6, c7, c8⟩, f0, f1, f2, f3, f4, f5, f6, f7, f8⟩ := hx
  have H := Lib.hid h.drew
  clear h hm hb
  go_enter Try.func12, Try.ntmps12
  go_wp2_with (go_at_call 14; (with_reducible refine Calls.mono HM.out ?_); rintro e w1 ⟨rfl, rfl⟩)
  have h1 : Nd (w.setCell ⟨p, 6, none⟩ (.int .i64 (sbe + 1))).drew p me t g ⟨sb, ss, sr, sbe + 1, sq⟩ bm := by
    have h : Nd w p me t g ⟨sb, ss, sr, sbe, sq⟩ bm := H.out
    ((repeat (first | (with_reducible assumption) | (with_reducible apply Blk.drew) | (with_reducible apply set_at2) | ((with_reducible apply set_far); (focus omega)) | (with_reducible apply Blk.alloc))); all_goals rfl)
  have hk : Kp (fun k => k = p) w (w.setCell ⟨p, 6, none⟩ (.int .i64 (sbe + 1))).drew := by (repeat (first | (with_reducible assumption) | (with_reducible apply Kp.drew) | ((with_reducible apply kp_set); (focus (first | exact .inl rfl | (right; (try simp only [size_set, size_drew, World.size_alloc]); omega)))) | (with_reducible apply Kp.alloc) | (with_reducible exact Kp.refl _ _)))
  generalize (w.setCell ⟨p, 6, none⟩ (.int .i64 (sbe + 1))).drew = w1 at h1 hk ⊢
  have HN := Lib.hid h1
  have HK := Lib.hid hk
  clear hk H c0 c1 c2 c3 c4 c5 c6 c7 c8 f0 f1 f2 f3 f4 f5 f6 f7 f8
  refine wp_region_seq [(0, true), (1, true), (2, true), (3, true), (4, true), (5, true), (6, true), (7, true), (8, true), (9, true)] (fun w' => w'.cell? ⟨p, 6, none⟩ = some (.int .i64 (sbe + 1)) ∧ w'.cell? ⟨p, 1, none⟩ = some (.int .i64 t)) (by kernel_rfl) (by kernel_rfl) ⟨h1.drew.cell 6, h1.drew.cell 1⟩ (fun hHeld => ?_)
  clear h1
  simp only [List.map_cons, List.map_nil, List.getElem?_toArray, List.getElem?_cons_zero, List.getElem?_cons_succ]
  repeat (first | (refine seq_skip (by rfl) ?_; try simp only [Act.put, List.setIfInBounds_toArray, List.set_cons_zero, List.set_cons_succ]) | (refine seq_not (by rfl) (by assumption) ?_; try simp only [Act.put, List.setIfInBounds_toArray, List.set_cons_zero, List.set_cons_succ]) | (refine seq_take (v := ?_) (by rfl) ?_ ?_; rotate_left; (focus ((intro w hSw; (try dsimp only at hSw); go_simp; (try with_reducible rfl)); done)); try simp only [Act.put, List.setIfInBounds_toArray, List.set_cons_zero, List.set_cons_succ]))
  refine seq_done ?_
  clear hHeld
  have hx := cells9 HN.out
  obtain ⟨⟨c0, c1, c2, c3, c4, c5, c6, c7, c8⟩, f0, f1, f2, f3, f4, f5, f6, f7, f8⟩ := hx
  go_wp2_with fail
  go_region
  go_wp2
  go_ret
  have h : Nd w1 p me t g ⟨sb, ss, sr, sbe + 1, sq⟩ bm := HN.out
  have hk := HK.out
  refine ⟨rfl, ?_, ?_⟩
  · ((repeat (first | (with_reducible assumption) | (with_reducible apply Blk.drew) | (with_reducible apply set_at2) | ((with_reducible apply set_far); (focus omega)) | (with_reducible apply Blk.alloc))); all_goals rfl)
  · (repeat (first | (with_reducible assumption) | (with_reducible apply Kp.drew) | ((with_reducible apply kp_set); (focus (first | exact .inl rfl | (right; (try simp only [size_set, size_drew, World.size_alloc]); omega)))) | (with_reducible apply Kp.alloc) | (with_reducible exact Kp.refl _ _)))
end Go.Proofs.Ythnnejflgbminaa.El
