/- The walks of elect's functions. -/
import Derived.Test.YthnnejflgbminaaMp
import Derived.Deep.QuietTactic
import Derived.BigQuiet
import Derived.BigRegion
import Derived.WalkLawsBesides
import Derived.WalkSpells
namespace Go.Proofs.Ythnnejflgbminaa.El
open Go.RowKit Go.Proofs.Ythnnejflgbminaa.Bk Go.Proofs.Ythnnejflgbminaa.Rw Go.Proofs.Ythnnejflgbminaa.Ow Go.Proofs.Ythnnejflgbminaa.Kp Go.Proofs.Ythnnejflgbminaa.Sq Go.Proofs.Ythnnejflgbminaa.Ck Go.Proofs.Ythnnejflgbminaa.Ck2 Go.Proofs.Ythnnejflgbminaa.Mp

/-- Newer. -/
def nw (a b : Int) : Bool := decide (0 < IntKind.i16.wrap (IntKind.u16.wrap (a - b)))
theorem wnewer_ok (a b : Int) (w : World) : Calls Try.prog 29 #[.int .u16 a, .int .u16 b] w fun e w' => e = .returned (.bool (nw a b)) ∧ w = w' := by
  go_enter Try.func29, Try.ntmps29
  go_wp2
  go_ret
  exact ⟨rfl, rfl⟩
theorem wnext_ok (a : Int) (w : World) : Calls Try.prog 28 #[.int .u16 a] w fun e w' => e = .returned (.int .u16 (IntKind.u16.wrap (a + 1))) ∧ w = w' := by
  go_enter Try.func28, Try.ntmps28
  go_wp2
  go_ret
  exact ⟨rfl, rfl⟩

/-- A node's state. -/
structure St where
  boot : Int
  seq : Int
  root : Int
  beats : Int
  quiet : Int
abbrev St.cs (me t g : Int) (s : St) (bm : Nat) : Array Value := #[.int .i64 me, .int .i64 t, .int .i64 g, .int .u16 s.boot, .int .u16 s.seq, .int .i64 s.root, .int .i64 s.beats, .int .i64 s.quiet, .map (some bm)]
def st0 (b : Int) : St := ⟨b, 0, -1, 0, 0⟩
/-- A node at block p, its map at block bm. -/
abbrev Nd (w : World) (p : Nat) (me t g : Int) (s : St) (bm : Nat) : Prop := Blk w p 58 (s.cs me t g bm)
theorem cells9 {w : World} {b : Nat} {t : TypeId} {x0 x1 x2 x3 x4 x5 x6 x7 x8 : Value} (h : Blk w b t #[x0, x1, x2, x3, x4, x5, x6, x7, x8]) : (w.cell? ⟨b, 0, none⟩ = some x0 ∧ w.cell? ⟨b, 1, none⟩ = some x1 ∧ w.cell? ⟨b, 2, none⟩ = some x2 ∧ w.cell? ⟨b, 3, none⟩ = some x3 ∧ w.cell? ⟨b, 4, none⟩ = some x4 ∧ w.cell? ⟨b, 5, none⟩ = some x5 ∧ w.cell? ⟨b, 6, none⟩ = some x6 ∧ w.cell? ⟨b, 7, none⟩ = some x7 ∧ w.cell? ⟨b, 8, none⟩ = some x8) ∧ w.frozen? ⟨b, 0, none⟩ = false ∧ w.frozen? ⟨b, 1, none⟩ = false ∧ w.frozen? ⟨b, 2, none⟩ = false ∧ w.frozen? ⟨b, 3, none⟩ = false ∧ w.frozen? ⟨b, 4, none⟩ = false ∧ w.frozen? ⟨b, 5, none⟩ = false ∧ w.frozen? ⟨b, 6, none⟩ = false ∧ w.frozen? ⟨b, 7, none⟩ = false ∧ w.frozen? ⟨b, 8, none⟩ = false :=
  ⟨⟨h.cell 0, h.cell 1, h.cell 2, h.cell 3, h.cell 4, h.cell 5, h.cell 6, h.cell 7, h.cell 8⟩, h.frozen 0, h.frozen 1, h.frozen 2, h.frozen 3, h.frozen 4, h.frozen 5, h.frozen 6, h.frozen 7, h.frozen 8⟩

theorem root_ok (p bm : Nat) (me t g : Int) (s : St) (w : World) (h : Nd w p me t g s bm) : Calls Try.prog 15 #[.pointer (some ⟨p, 0, none⟩)] w fun e w' => e = .returned (.int .i64 s.root) ∧ w = w' := by
  have c : w.cell? ⟨p, 5, none⟩ = some (.int .i64 s.root) := h.cell 5
  clear h
  go_enter Try.func15, Try.ntmps15
  go_wp2
  go_ret
  exact ⟨rfl, rfl⟩
theorem root_nil (w : World) : Calls Try.prog 15 #[.pointer none] w fun e w' => e = .returned (.int .i64 (-1)) ∧ w = w' := by
  go_enter Try.func15, Try.ntmps15
  go_wp2
  go_ret
  exact ⟨rfl, rfl⟩
theorem mine_ok (p bm : Nat) (me t g : Int) (s : St) (w : World) (h : Nd w p me t g s bm) : Calls Try.prog 14 #[.pointer (some ⟨p, 0, none⟩)] w fun e w' => e = .returned (.bool (s.root == me)) ∧ w' = w.drew := by
  have c : w.cell? ⟨p, 5, none⟩ = some (.int .i64 s.root) := h.cell 5
  have c0 : w.cell? ⟨p, 0, none⟩ = some (.int .i64 me) := h.cell 0
  clear h
  go_enter Try.func14, Try.ntmps14
  go_wp2_with fail
  refine wp_region_seq [(0, true), (1, true), (2, true), (3, true), (4, true), (5, true), (6, true), (7, true), (8, true), (9, true), (10, true), (11, true), (12, true), (13, true)] (fun w' => w'.cell? ⟨p, 5, none⟩ = some (.int .i64 s.root) ∧ w'.cell? ⟨p, 0, none⟩ = some (.int .i64 me)) (by kernel_rfl) (by kernel_rfl) ⟨c, c0⟩ (fun hHeld => ?_)
  simp only [List.map_cons, List.map_nil, List.getElem?_toArray, List.getElem?_cons_zero, List.getElem?_cons_succ]
  repeat (first | (refine seq_skip (by rfl) ?_; try simp only [Act.put, List.setIfInBounds_toArray, List.set_cons_zero, List.set_cons_succ]) | (refine seq_not (by rfl) (by assumption) ?_; try simp only [Act.put, List.setIfInBounds_toArray, List.set_cons_zero, List.set_cons_succ]) | (refine seq_take (v := ?_) (by rfl) ?_ ?_; rotate_left; (focus ((intro w hSw; (try dsimp only at hSw); go_simp; (try with_reducible rfl)); done)); try simp only [Act.put, List.setIfInBounds_toArray, List.set_cons_zero, List.set_cons_succ]))
  refine seq_done ?_
  clear hHeld
  go_wp2
  go_ret
  exact ⟨rfl, rfl⟩
theorem mine_nil (w : World) : Calls Try.prog 14 #[.pointer none] w fun e w' => e = .returned (.bool false) ∧ w' = w.drew := by
  go_enter Try.func14, Try.ntmps14
  go_wp2_with fail
  refine wp_region_seq [(0, true), (1, true), (2, true), (3, true), (4, true), (5, true), (6, true), (7, true), (8, true), (9, true), (10, true), (11, true), (12, true), (13, true)] (fun w' => True) (by kernel_rfl) (by kernel_rfl) trivial (fun hHeld => ?_)
  simp only [List.map_cons, List.map_nil, List.getElem?_toArray, List.getElem?_cons_zero, List.getElem?_cons_succ]
  repeat (first | (refine seq_skip (by rfl) ?_; try simp only [Act.put, List.setIfInBounds_toArray, List.set_cons_zero, List.set_cons_succ]) | (refine seq_not (by rfl) (by assumption) ?_; try simp only [Act.put, List.setIfInBounds_toArray, List.set_cons_zero, List.set_cons_succ]) | (refine seq_take (v := ?_) (by rfl) ?_ ?_; rotate_left; (focus ((intro w hSw; (try dsimp only at hSw); go_simp; (try with_reducible rfl)); done)); try simp only [Act.put, List.setIfInBounds_toArray, List.set_cons_zero, List.set_cons_succ]))
  refine seq_done ?_
  clear hHeld
  go_wp2
  go_ret
  exact ⟨rfl, rfl⟩

/-- Whether a mark is newer. -/
def nwm (x y : Int × Int) : Bool := nw x.1 y.1 || (x.1 == y.1 && nw x.2 y.2)
theorem newer_ok (x y : Int × Int) (w : World) : Calls Try.prog 26 #[mk x, mk y] w fun e w' => e = .returned (.bool (nwm x y)) ∧ Below w.heap.size w w' := by
  obtain ⟨a, b⟩ := x
  obtain ⟨c, d⟩ := y
  unfold nwm
  dsimp only
  rcases h1 : nw a c with _ | _
  · rcases h2 : a == c with _ | _
    · go_enter Try.func26, Try.ntmps26
      go_wp2_with (go_at_call 29; (with_reducible refine Calls.mono (wnewer_ok _ _ _) ?_); rintro e w1 ⟨rfl, rfl⟩; rw [h1])
      go_ret
      exact ⟨rfl, ((Below.refl _ _).alloc (Nat.le_refl _) _).alloc (by simp) _⟩
    · go_enter Try.func26, Try.ntmps26
      go_wp2_with (first | (go_at_call 29; (with_reducible refine Calls.mono (wnewer_ok a c _) ?_); rintro e w1 ⟨rfl, rfl⟩; rw [h1]) | (go_at_call 29; (with_reducible refine Calls.mono (wnewer_ok _ _ _) ?_); rintro e w1 ⟨rfl, rfl⟩))
      go_ret
      exact ⟨rfl, ((Below.refl _ _).alloc (Nat.le_refl _) _).alloc (by simp) _⟩
  · go_enter Try.func26, Try.ntmps26
    go_wp2_with (go_at_call 29; (with_reducible refine Calls.mono (wnewer_ok _ _ _) ?_); rintro e w1 ⟨rfl, rfl⟩; rw [h1])
    go_ret
    exact ⟨rfl, ((Below.refl _ _).alloc (Nat.le_refl _) _).alloc (by simp) _⟩

def gd (t g : Int) : Bool := decide (1 ≤ t) && decide (t ≤ 1000) && decide (0 ≤ g) && decide (g ≤ 1000)
theorem good_ok (t g : Int) (w : World) : Calls Try.prog 19 #[.agg #[.int .i64 t, .int .i64 g]] w fun e w' => e = .returned (.bool (gd t g)) ∧ Below w.heap.size w w' := by
  unfold gd
  by_cases h1 : 1 ≤ t
  · by_cases h2 : t ≤ 1000
    · by_cases h3 : 0 ≤ g
      · by_cases h4 : g ≤ 1000
        · rw [decide_eq_true h1, decide_eq_true h2, decide_eq_true h3, decide_eq_true h4]
          go_enter Try.func19, Try.ntmps19
          go_wp2
          go_ret
          exact ⟨rfl, (Below.refl _ _).alloc (Nat.le_refl _) _⟩
        · rw [decide_eq_true h1, decide_eq_true h2, decide_eq_true h3, decide_eq_false h4]
          go_enter Try.func19, Try.ntmps19
          go_wp2
          go_ret
          exact ⟨rfl, (Below.refl _ _).alloc (Nat.le_refl _) _⟩
      · rw [decide_eq_true h1, decide_eq_true h2, decide_eq_false h3]
        go_enter Try.func19, Try.ntmps19
        go_wp2
        go_ret
        exact ⟨rfl, (Below.refl _ _).alloc (Nat.le_refl _) _⟩
    · rw [decide_eq_true h1, decide_eq_false h2]
      go_enter Try.func19, Try.ntmps19
      go_wp2
      go_ret
      exact ⟨rfl, (Below.refl _ _).alloc (Nat.le_refl _) _⟩
  · rw [decide_eq_false h1]
    go_enter Try.func19, Try.ntmps19
    go_wp2
    go_ret
    exact ⟨rfl, (Below.refl _ _).alloc (Nat.le_refl _) _⟩

theorem boot_nil (b : Int) (w : World) : Calls Try.prog 13 #[.pointer none, .int .u16 b] w fun e w' => e = .returned (.tuple #[]) ∧ w = w' := by
  go_enter Try.func13, Try.ntmps13
  go_wp2
  go_end0
  exact ⟨rfl, rfl⟩
theorem boot_ok (p : Nat) (me t g x y z u v b : Int) (m : Value) (w : World) (h : Blk w p 58 #[.int .i64 me, .int .i64 t, .int .i64 g, .int .u16 x, .int .u16 y, .int .i64 z, .int .i64 u, .int .i64 v, m]) : Calls Try.prog 13 #[.pointer (some ⟨p, 0, none⟩), .int .u16 b] w fun e w' => e = .returned (.tuple #[]) ∧ ∃ bm, Nd w' p me t g (st0 b) bm ∧ Mp w' bm 0 (fun _ => none) ∧ w.heap.size ≤ bm ∧ Kp (fun k => k = p) w w' := by
  have hx := cells9 h
  obtain ⟨⟨c0, c1, c2, c3, c4, c5, c6, c7, c8⟩, f0, f1, f2, f3, f4, f5, f6, f7, f8⟩ := hx
  have hp := h.lt
  have H := Lib.hid h
  clear h
  have hmm := @run_makeMap Try.prog
  go_enter Try.func13, Try.ntmps13
  go_wp2_with fail
  refine wp_region_seq [(0, true), (1, true), (2, true), (3, true), (4, true), (5, true), (6, true), (7, true), (8, true), (9, true), (10, false), (11, true), (12, true), (13, false)] (fun w' => w'.cell? ⟨p, 0, none⟩ = some (.int .i64 me) ∧ w'.cell? ⟨p, 1, none⟩ = some (.int .i64 t) ∧ w'.cell? ⟨p, 2, none⟩ = some (.int .i64 g)) (by kernel_rfl) (by kernel_rfl) ⟨c0, c1, c2⟩ (fun hHeld => ?_)
  simp only [List.map_cons, List.map_nil, List.getElem?_toArray, List.getElem?_cons_zero, List.getElem?_cons_succ]
  repeat (first | (refine seq_skip (by rfl) ?_; try simp only [Act.put, List.setIfInBounds_toArray, List.set_cons_zero, List.set_cons_succ]) | (refine seq_not (by rfl) (by assumption) ?_; try simp only [Act.put, List.setIfInBounds_toArray, List.set_cons_zero, List.set_cons_succ]) | (refine seq_take (v := ?_) (by rfl) ?_ ?_; rotate_left; (focus ((intro w hSw; (try dsimp only at hSw); go_simp; (try with_reducible rfl)); done)); try simp only [Act.put, List.setIfInBounds_toArray, List.set_cons_zero, List.set_cons_succ]))
  refine seq_do (fun K hK => ?_)
  go_simp
  have HA := Lib.hid ((H.out.alloc (.map #[] 0)).drew)
  have hx := cells9 HA.out
  obtain ⟨⟨d0, d1, d2, d3, d4, d5, d6, d7, d8⟩, e0, e1, e2, e3, e4, e5, e6, e7, e8⟩ := hx
  refine hK.out _ _ ⟨d0, d1, d2⟩ (fun hHeld => ?_)
  clear hK K
  repeat (first | (refine seq_skip (by rfl) ?_; try simp only [Act.put, List.setIfInBounds_toArray, List.set_cons_zero, List.set_cons_succ]) | (refine seq_not (by rfl) (by assumption) ?_; try simp only [Act.put, List.setIfInBounds_toArray, List.set_cons_zero, List.set_cons_succ]) | (refine seq_take (v := ?_) (by rfl) ?_ ?_; rotate_left; (focus ((intro w hSw; (try dsimp only at hSw); go_simp; (try with_reducible rfl)); done)); try simp only [Act.put, List.setIfInBounds_toArray, List.set_cons_zero, List.set_cons_succ]))
  refine seq_do (fun K hK => ?_)
  go_simp
  obtain ⟨w1, hw1⟩ : ∃ w1, w1 = ((((((((((w.setCell ⟨p, 0, none⟩ (.int .i64 me)).setCell ⟨p, 1, none⟩ (.int .i64 t)).setCell ⟨p, 2, none⟩ (.int .i64 g)).setCell ⟨p, 3, none⟩ (.int .u16 b)).setCell ⟨p, 4, none⟩ (.int .u16 0)).setCell ⟨p, 5, none⟩ (.int .i64 (-1))).setCell ⟨p, 6, none⟩ (.int .i64 0)).setCell ⟨p, 7, none⟩ (.int .i64 0)).setCell ⟨p, 8, none⟩ (.map (some w.heap.size))).alloc (.map #[] 0)).drew := ⟨_, rfl⟩
  have h := H.out
  have HN : Hid (Nd w1 p me t g (st0 b) w.heap.size) := Lib.hid (by rw [hw1]; unfold st0; ((repeat (first | (with_reducible assumption) | (with_reducible apply Blk.drew) | (with_reducible apply set_at2) | ((with_reducible apply set_far); (focus omega)) | (with_reducible apply Blk.alloc))); all_goals rfl))
  have HK : Hid (Kp (fun k => k = p) w w1) := Lib.hid (by rw [hw1]; (repeat (first | (with_reducible assumption) | (with_reducible apply Kp.drew) | ((with_reducible apply kp_set); (focus (first | exact .inl rfl | (right; (try simp only [size_set, size_drew, World.size_alloc]); omega)))) | (with_reducible apply Kp.alloc) | (with_reducible exact Kp.refl _ _))))
  have HM : Hid (Mp w1 w.heap.size 0 (fun _ => none)) := Lib.hid (by
    rw [hw1]
    have := Mp.new (((((((((w.setCell ⟨p, 0, none⟩ (.int .i64 me)).setCell ⟨p, 1, none⟩ (.int .i64 t)).setCell ⟨p, 2, none⟩ (.int .i64 g)).setCell ⟨p, 3, none⟩ (.int .u16 b)).setCell ⟨p, 4, none⟩ (.int .u16 0)).setCell ⟨p, 5, none⟩ (.int .i64 (-1))).setCell ⟨p, 6, none⟩ (.int .i64 0)).setCell ⟨p, 7, none⟩ (.int .i64 0)).setCell ⟨p, 8, none⟩ (.map (some w.heap.size)))
    simp only [size_set] at this
    exact this.drew)
  rw [← hw1]
  clear hw1 h
  refine hK.out _ _ ⟨HN.out.cell 0, HN.out.cell 1, HN.out.cell 2⟩ (fun hHeld => ?_)
  clear hK K
  refine seq_done ?_
  clear hHeld
  go_wp2
  go_end0
  exact ⟨rfl, _, HN.out, HM.out, Nat.le_refl _, HK.out⟩

theorem new_ok (me t g : Int) (w : World) (h0 : 0 ≤ me) (h1 : me ≤ 63) (hg : gd t g = true) : Calls Try.prog 9 #[.int .i64 me, .agg #[.int .i64 t, .int .i64 g]] w fun e w' => ∃ p bm, e = .returned (.tuple #[.pointer (some ⟨p, 0, none⟩), .int .i64 0]) ∧ Nd w' p me t g (st0 0) bm ∧ Mp w' bm 0 (fun _ => none) ∧ w.heap.size ≤ p ∧ w.heap.size ≤ bm ∧ Below w.heap.size w w' := by
  have HG := Lib.hid (fun w => hg ▸ good_ok t g w)
  have HB0 := Lib.hid ((Below.refl _ w).alloc (Nat.le_refl _) (.cells #[.int .i64 t, .int .i64 g] 23))
  have HR0 := Lib.hid (Blk.new w 23 #[.int .i64 t, .int .i64 g])
  clear hg
  go_enter Try.func9, Try.ntmps9
  go_wp2_with (go_at_call 19; (with_reducible refine Calls.mono (HG.out _) ?_); rintro e w1 ⟨rfl, hb⟩; have hz := hb.size; have HB1 := Lib.hid (HB0.out.trans (hb.mono HB0.out.size)); have HR1 := Lib.hid (HR0.out.keeps hb); clear hb; have y0 : w1.cell? ⟨w.heap.size, 0, none⟩ = some (.int .i64 t) := HR1.out.cell 0; have y1 : w1.cell? ⟨w.heap.size, 1, none⟩ = some (.int .i64 g) := HR1.out.cell 1)
  have hN : Blk (w1.alloc (.cells #[.int .i64 me, .int .i64 t, .int .i64 g, .int .u16 0, .int .u16 0, .int .i64 0, .int .i64 0, .int .i64 0, .map none] 58)) w1.heap.size 58 #[.int .i64 me, .int .i64 t, .int .i64 g, .int .u16 0, .int .u16 0, .int .i64 0, .int .i64 0, .int .i64 0, .map none] := Blk.new _ _ _
  refine (boot_ok _ _ _ _ _ _ _ _ _ _ _ _ hN).mono ?_
  rintro e w2 ⟨rfl, bm, hn, hm, hbm, hk⟩
  simp only [World.size_alloc] at hbm
  have hz1 : w.heap.size ≤ w1.heap.size := HB1.out.size
  have HQ := Lib.hid (show ∃ p bm, (Ending.returned (.tuple #[.pointer (some ⟨w1.heap.size, 0, none⟩), .int .i64 0]) = .returned (.tuple #[.pointer (some ⟨p, 0, none⟩), .int .i64 0])) ∧ Nd w2 p me t g (st0 0) bm ∧ Mp w2 bm 0 (fun _ => none) ∧ w.heap.size ≤ p ∧ w.heap.size ≤ bm ∧ Below w.heap.size w w2 from
    ⟨_, bm, rfl, hn, hm, by omega, by omega, below_kp (HB1.out.alloc HB1.out.size _) (by simp; omega) hk (fun k hk => by omega)⟩)
  clear hn hm hbm hk hN y0 y1 hz1
  go_wp2
  go_ret2
  exact HQ.out
theorem new_no (me t g : Int) (w : World) (h : (me < 0 ∨ 63 < me) ∨ gd t g = false) : Calls Try.prog 9 #[.int .i64 me, .agg #[.int .i64 t, .int .i64 g]] w fun e w' => e = .returned (.tuple #[.pointer none, .int .i64 1]) ∧ Below w.heap.size w w' := by
  have HB0 := Lib.hid ((Below.refl _ w).alloc (Nat.le_refl _) (.cells #[.int .i64 t, .int .i64 g] 23))
  have HR0 := Lib.hid (Blk.new w 23 #[.int .i64 t, .int .i64 g])
  by_cases h0 : me < 0
  · clear h
    go_enter Try.func9, Try.ntmps9
    go_wp2
    go_ret2
    exact ⟨rfl, HB0.out⟩
  by_cases h1 : 63 < me
  · clear h
    go_enter Try.func9, Try.ntmps9
    go_wp2
    go_ret2
    exact ⟨rfl, HB0.out⟩
  have hg : gd t g = false := h.resolve_left (by omega)
  have HG := Lib.hid (fun w => hg ▸ good_ok t g w)
  clear hg h
  go_enter Try.func9, Try.ntmps9
  go_wp2_with (go_at_call 19; (with_reducible refine Calls.mono (HG.out _) ?_); rintro e w1 ⟨rfl, hb⟩; have HB1 := Lib.hid (HB0.out.trans (hb.mono HB0.out.size)); clear hb)
  go_ret2
  exact ⟨rfl, HB1.out⟩
end Go.Proofs.Ythnnejflgbminaa.El
