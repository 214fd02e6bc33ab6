/- The walk of the document's Hear, and of its Beat. -/
import Derived.Test.YthnnejflgbminabRp
import Derived.Deep.DeepCutAuto
namespace Go.Proofs.Ythnnejflgbminab.Pr
open Go.RowKit Go.Proofs.Ythnnejflgbminab.Bk Go.Proofs.Ythnnejflgbminab.Rw Go.Proofs.Ythnnejflgbminab.Ow Go.Proofs.Ythnnejflgbminab.Kp Go.Proofs.Ythnnejflgbminab.Sq Go.Proofs.Ythnnejflgbminab.Ck Go.Proofs.Ythnnejflgbminab.Ck2 Go.Proofs.Ythnnejflgbminab.Tm Go.Proofs.Ythnnejflgbminab.Frm Go.Proofs.Ythnnejflgbminab.Sq2

theorem regood_yes (l o h : Int) (w : World) (h1 : 0 ≤ l) (h2 : l ≤ 1125899906842624) (h3 : -1125899906842624 ≤ o) (h4 : o ≤ 1125899906842624) (h5 : 1 ≤ h) (h6 : h ≤ 63) :
    Calls Try.prog 31 #[.agg #[.int .i64 l, .int .i64 o, .int .i64 h]] w fun e w' => e = .returned (.bool true) ∧ Below w.heap.size w w' := by
  have HB := Lib.hid ((Below.refl _ w).alloc (Nat.le_refl _) (.cells #[.int .i64 l, .int .i64 o, .int .i64 h] 58))
  go_enter Try.func31, Try.ntmps31
  go_wp2
  go_ret
  exact ⟨by first | rfl | (simp; omega), HB.out⟩
theorem ret_rhear (Q : Ending → World → Prop) (a : Act) (W : World) (g : Nat) (t : TypeId) (x y z : Int) (ok : Bool) (h2 : a.tmps.getD 6 undef = .pointer (some ⟨g, 0, none⟩)) (h3 : a.tmps.getD 7 undef = .bool ok) (hd : a.defers = [])
    (hb : Blk W g t #[.int .i64 x, .int .i64 y, .int .i64 z]) (hq : Q (.returned (.tuple #[.agg #[.int .i64 x, .int .i64 y, .int .i64 z], .bool ok])) W) : bodyPost Try.prog Try.f24 Q .ret a W := by
  have q0 : W.cell? ⟨g, 0, none⟩ = some (.int .i64 x) := hb.cell 0
  have q1 : W.cell? ⟨g, 1, none⟩ = some (.int .i64 y) := hb.cell 1
  have q2 : W.cell? ⟨g, 2, none⟩ = some (.int .i64 z) := hb.cell 2
  obtain ⟨tmps, defers⟩ := a
  simp only at h2 h3 hd
  subst hd
  rw [Array.getD_eq_getD_getElem?] at h2 h3
  refine bodyPost_ret (v := .tuple #[.agg #[.int .i64 x, .int .i64 y, .int .i64 z], .bool ok]) ?_ rfl hq
  simp [results, Try.results24, go_sem, h2, h3, q0, q1, q2]
set_option maxRecDepth 100000 in
set_option maxHeartbeats 800000 in
theorem rhear_no1 (r : Nat) (me st ss : Int) (sd sv sr : Int) (x0 x1 x2 x3 x4 x5 x6 x7 x8 x9 x10 x11 x12 x13 loc : Int) (w : World) (h : Rd w r me ⟨st, ss, false, sd, sv, sr⟩)  :
    Calls Try.prog 24 #[.pointer (some ⟨r, 0, none⟩), .agg #[.int .i64 x0, .int .i64 x1, .int .i64 x2, .int .i64 x3, .int .u16 x4, .int .u16 x5, .int .i64 x6, .int .i64 x7, .int .i64 x8, .int .i64 x9, .int .i64 x10, .int .i64 x11, .int .i64 x12, .int .i64 x13], .int .i64 loc] w fun e w' => e = .returned (.tuple #[.agg #[.int .i64 0, .int .i64 0, .int .i64 0], .bool false]) ∧ Below w.heap.size w w' := by
  have HGD := Lib.hid (fun w => rgood_ok x9 x10 x11 loc w)
  have hbs : r < w.heap.size := h.lt
  have HP := Lib.hid ((h.alloc (.cells #[.int .i64 x0, .int .i64 x1, .int .i64 x2, .int .i64 x3, .int .u16 x4, .int .u16 x5, .int .i64 x6, .int .i64 x7, .int .i64 x8, .int .i64 x9, .int .i64 x10, .int .i64 x11, .int .i64 x12, .int .i64 x13] 41)).alloc (.cells #[.int .i64 0, .int .i64 0, .int .i64 0] 58)).drew
  have HR := Lib.hid ((Blk.new w 41 #[.int .i64 x0, .int .i64 x1, .int .i64 x2, .int .i64 x3, .int .u16 x4, .int .u16 x5, .int .i64 x6, .int .i64 x7, .int .i64 x8, .int .i64 x9, .int .i64 x10, .int .i64 x11, .int .i64 x12, .int .i64 x13]).alloc (.cells #[.int .i64 0, .int .i64 0, .int .i64 0] 58)).drew
  have HZ := Lib.hid (show Blk ((w.alloc (.cells #[.int .i64 x0, .int .i64 x1, .int .i64 x2, .int .i64 x3, .int .u16 x4, .int .u16 x5, .int .i64 x6, .int .i64 x7, .int .i64 x8, .int .i64 x9, .int .i64 x10, .int .i64 x11, .int .i64 x12, .int .i64 x13] 41)).alloc (.cells #[.int .i64 0, .int .i64 0, .int .i64 0] 58)).drew (w.heap.size + 1) 58 #[.int .i64 0, .int .i64 0, .int .i64 0] from (new_at (by simp)).drew)
  have HB := Lib.hid (show Below w.heap.size w ((w.alloc (.cells #[.int .i64 x0, .int .i64 x1, .int .i64 x2, .int .i64 x3, .int .u16 x4, .int .u16 x5, .int .i64 x6, .int .i64 x7, .int .i64 x8, .int .i64 x9, .int .i64 x10, .int .i64 x11, .int .i64 x12, .int .i64 x13] 41)).alloc (.cells #[.int .i64 0, .int .i64 0, .int .i64 0] 58)).drew from below_drew (((Below.refl _ w).alloc (Nat.le_refl _) _).alloc (by simp) _))
  have hsz : ((w.alloc (.cells #[.int .i64 x0, .int .i64 x1, .int .i64 x2, .int .i64 x3, .int .u16 x4, .int .u16 x5, .int .i64 x6, .int .i64 x7, .int .i64 x8, .int .i64 x9, .int .i64 x10, .int .i64 x11, .int .i64 x12, .int .i64 x13] 41)).alloc (.cells #[.int .i64 0, .int .i64 0, .int .i64 0] 58)).drew.heap.size = w.heap.size + 2 := by simp
  have HSZ := Lib.hid hsz
  clear h hsz
  go_enter Try.func24, Try.ntmps24
  go_wp2
  refine wp_region_seq [(0, true), (1, true), (2, true), (3, true), (4, true), (5, true), (6, true), (7, true), (8, true), (9, true), (10, true), (11, true), (12, true), (13, true), (14, true), (15, true), (16, true), (17, true), (18, true), (19, true), (20, true), (21, true), (22, true), (23, true), (24, true), (25, true), (26, true), (27, true), (28, true), (29, true), (30, true), (31, true), (32, true), (33, true), (34, true), (35, true), (36, true), (37, true), (38, true), (39, true), (40, false), (41, true), (42, true), (43, true), (44, true), (45, true), (46, true), (47, true), (48, true), (49, true), (50, true), (51, true), (52, true)] (fun w' => w'.cell? ⟨r, 0, none⟩ = some (.int .i64 me) ∧ w'.cell? ⟨r, 1, none⟩ = some (.int .i64 st) ∧ w'.cell? ⟨r, 2, none⟩ = some (.int .i64 ss) ∧ w'.cell? ⟨r, 3, none⟩ = some (.bool false) ∧ w'.cell? ⟨w.heap.size, 1, none⟩ = some (.int .i64 x1) ∧ w'.cell? ⟨w.heap.size, 2, none⟩ = some (.int .i64 x2) ∧ w'.cell? ⟨w.heap.size, 6, none⟩ = some (.int .i64 x6) ∧ w'.cell? ⟨w.heap.size, 9, none⟩ = some (.int .i64 x9) ∧ w'.cell? ⟨w.heap.size, 10, none⟩ = some (.int .i64 x10) ∧ w'.cell? ⟨w.heap.size, 11, none⟩ = some (.int .i64 x11)) (by kernel_rfl) (by kernel_rfl) ⟨HP.out.cell 0, HP.out.cell 1, HP.out.cell 2, HP.out.cell 3, HR.out.cell 1, HR.out.cell 2, HR.out.cell 6, HR.out.cell 9, HR.out.cell 10, HR.out.cell 11⟩ (fun hHeld => ?_)
  simp only [List.map_cons, List.map_nil, List.getElem?_toArray, List.getElem?_cons_zero, List.getElem?_cons_succ]
  repeat (first | (first | (refine seq_skip (by rfl) ?_; try simp only [Act.put, List.setIfInBounds_toArray, List.set_cons_zero, List.set_cons_succ]) | (refine seq_not (by rfl) (by assumption) ?_; try simp only [Act.put, List.setIfInBounds_toArray, List.set_cons_zero, List.set_cons_succ]) | (refine seq_take (v := ?_) (by rfl) ?_ ?_; rotate_left; (focus ((intro w hSw; (try dsimp only at hSw); go_simp; (try with_reducible rfl)); done)); try simp only [Act.put, List.setIfInBounds_toArray, List.set_cons_zero, List.set_cons_succ])) | (refine seq_do (fun K hK => ?_); go_simp; go_at_call 9; (with_reducible refine Calls.mono (HGD.out _) ?_); rintro e w' ⟨rfl, rfl⟩; dsimp only; refine hK.out _ _ (by assumption) (fun _ => ?_); clear hK K))
  refine seq_done ?_
  clear hHeld
  generalize ((w.alloc (.cells #[.int .i64 x0, .int .i64 x1, .int .i64 x2, .int .i64 x3, .int .u16 x4, .int .u16 x5, .int .i64 x6, .int .i64 x7, .int .i64 x8, .int .i64 x9, .int .i64 x10, .int .i64 x11, .int .i64 x12, .int .i64 x13] 41)).alloc (.cells #[.int .i64 0, .int .i64 0, .int .i64 0] 58)).drew = w2 at HP HR HZ HB HSZ ⊢
  have hz := HSZ.out
  have hy := cells3 HZ.out
  obtain ⟨z0, z1, z2, z3, z4, z5⟩ := hy
  clear hz
  go_wp2
  have h1 := HZ.out
  have h2 := HB.out
  refine ret_rhear _ _ _ (w.heap.size + 1) 58 0 0 0 false rfl rfl rfl ?_ ⟨rfl, ?_⟩
  · ((repeat (first | (with_reducible assumption) | (with_reducible apply Blk.drew) | (with_reducible apply set_at2) | ((with_reducible apply set_far); (focus omega)) | (with_reducible apply Blk.alloc))); all_goals rfl)
  · (repeat (first | (with_reducible assumption) | (with_reducible apply below_drew) | ((with_reducible apply below_set); (focus omega)) | ((with_reducible apply below_at); (focus ((try simp only [size_set, size_drew, World.size_alloc]); omega)))))
set_option maxRecDepth 100000 in
set_option maxHeartbeats 800000 in
theorem rhear_no2 (r : Nat) (me st ss : Int) (sd sv sr : Int) (x0 x1 x2 x3 x4 x5 x6 x7 x8 x9 x10 x11 x12 x13 loc : Int) (w : World) (h : Rd w r me ⟨st, ss, true, sd, sv, sr⟩) (c1 : (x2 != me) = true) :
    Calls Try.prog 24 #[.pointer (some ⟨r, 0, none⟩), .agg #[.int .i64 x0, .int .i64 x1, .int .i64 x2, .int .i64 x3, .int .u16 x4, .int .u16 x5, .int .i64 x6, .int .i64 x7, .int .i64 x8, .int .i64 x9, .int .i64 x10, .int .i64 x11, .int .i64 x12, .int .i64 x13], .int .i64 loc] w fun e w' => e = .returned (.tuple #[.agg #[.int .i64 0, .int .i64 0, .int .i64 0], .bool false]) ∧ Below w.heap.size w w' := by
  have HGD := Lib.hid (fun w => rgood_ok x9 x10 x11 loc w)
  have hbs : r < w.heap.size := h.lt
  have HP := Lib.hid ((h.alloc (.cells #[.int .i64 x0, .int .i64 x1, .int .i64 x2, .int .i64 x3, .int .u16 x4, .int .u16 x5, .int .i64 x6, .int .i64 x7, .int .i64 x8, .int .i64 x9, .int .i64 x10, .int .i64 x11, .int .i64 x12, .int .i64 x13] 41)).alloc (.cells #[.int .i64 0, .int .i64 0, .int .i64 0] 58)).drew
  have HR := Lib.hid ((Blk.new w 41 #[.int .i64 x0, .int .i64 x1, .int .i64 x2, .int .i64 x3, .int .u16 x4, .int .u16 x5, .int .i64 x6, .int .i64 x7, .int .i64 x8, .int .i64 x9, .int .i64 x10, .int .i64 x11, .int .i64 x12, .int .i64 x13]).alloc (.cells #[.int .i64 0, .int .i64 0, .int .i64 0] 58)).drew
  have HZ := Lib.hid (show Blk ((w.alloc (.cells #[.int .i64 x0, .int .i64 x1, .int .i64 x2, .int .i64 x3, .int .u16 x4, .int .u16 x5, .int .i64 x6, .int .i64 x7, .int .i64 x8, .int .i64 x9, .int .i64 x10, .int .i64 x11, .int .i64 x12, .int .i64 x13] 41)).alloc (.cells #[.int .i64 0, .int .i64 0, .int .i64 0] 58)).drew (w.heap.size + 1) 58 #[.int .i64 0, .int .i64 0, .int .i64 0] from (new_at (by simp)).drew)
  have HB := Lib.hid (show Below w.heap.size w ((w.alloc (.cells #[.int .i64 x0, .int .i64 x1, .int .i64 x2, .int .i64 x3, .int .u16 x4, .int .u16 x5, .int .i64 x6, .int .i64 x7, .int .i64 x8, .int .i64 x9, .int .i64 x10, .int .i64 x11, .int .i64 x12, .int .i64 x13] 41)).alloc (.cells #[.int .i64 0, .int .i64 0, .int .i64 0] 58)).drew from below_drew (((Below.refl _ w).alloc (Nat.le_refl _) _).alloc (by simp) _))
  have hsz : ((w.alloc (.cells #[.int .i64 x0, .int .i64 x1, .int .i64 x2, .int .i64 x3, .int .u16 x4, .int .u16 x5, .int .i64 x6, .int .i64 x7, .int .i64 x8, .int .i64 x9, .int .i64 x10, .int .i64 x11, .int .i64 x12, .int .i64 x13] 41)).alloc (.cells #[.int .i64 0, .int .i64 0, .int .i64 0] 58)).drew.heap.size = w.heap.size + 2 := by simp
  have HSZ := Lib.hid hsz
  clear h hsz
  go_enter Try.func24, Try.ntmps24
  go_wp2
  refine wp_region_seq [(0, true), (1, true), (2, true), (3, true), (4, true), (5, true), (6, true), (7, true), (8, true), (9, true), (10, true), (11, true), (12, true), (13, true), (14, true), (15, true), (16, true), (17, true), (18, true), (19, true), (20, true), (21, true), (22, true), (23, true), (24, true), (25, true), (26, true), (27, true), (28, true), (29, true), (30, true), (31, true), (32, true), (33, true), (34, true), (35, true), (36, true), (37, true), (38, true), (39, true), (40, false), (41, true), (42, true), (43, true), (44, true), (45, true), (46, true), (47, true), (48, true), (49, true), (50, true), (51, true), (52, true)] (fun w' => w'.cell? ⟨r, 0, none⟩ = some (.int .i64 me) ∧ w'.cell? ⟨r, 1, none⟩ = some (.int .i64 st) ∧ w'.cell? ⟨r, 2, none⟩ = some (.int .i64 ss) ∧ w'.cell? ⟨r, 3, none⟩ = some (.bool true) ∧ w'.cell? ⟨w.heap.size, 1, none⟩ = some (.int .i64 x1) ∧ w'.cell? ⟨w.heap.size, 2, none⟩ = some (.int .i64 x2) ∧ w'.cell? ⟨w.heap.size, 6, none⟩ = some (.int .i64 x6) ∧ w'.cell? ⟨w.heap.size, 9, none⟩ = some (.int .i64 x9) ∧ w'.cell? ⟨w.heap.size, 10, none⟩ = some (.int .i64 x10) ∧ w'.cell? ⟨w.heap.size, 11, none⟩ = some (.int .i64 x11)) (by kernel_rfl) (by kernel_rfl) ⟨HP.out.cell 0, HP.out.cell 1, HP.out.cell 2, HP.out.cell 3, HR.out.cell 1, HR.out.cell 2, HR.out.cell 6, HR.out.cell 9, HR.out.cell 10, HR.out.cell 11⟩ (fun hHeld => ?_)
  simp only [List.map_cons, List.map_nil, List.getElem?_toArray, List.getElem?_cons_zero, List.getElem?_cons_succ]
  repeat (first | (first | (refine seq_skip (by rfl) ?_; try simp only [Act.put, List.setIfInBounds_toArray, List.set_cons_zero, List.set_cons_succ]) | (refine seq_not (by rfl) (by assumption) ?_; try simp only [Act.put, List.setIfInBounds_toArray, List.set_cons_zero, List.set_cons_succ]) | (refine seq_take (v := ?_) (by rfl) ?_ ?_; rotate_left; (focus ((intro w hSw; (try dsimp only at hSw); go_simp; (try with_reducible rfl)); done)); try simp only [Act.put, List.setIfInBounds_toArray, List.set_cons_zero, List.set_cons_succ])) | (refine seq_do (fun K hK => ?_); go_simp; go_at_call 9; (with_reducible refine Calls.mono (HGD.out _) ?_); rintro e w' ⟨rfl, rfl⟩; dsimp only; refine hK.out _ _ (by assumption) (fun _ => ?_); clear hK K))
  refine seq_done ?_
  clear hHeld
  generalize ((w.alloc (.cells #[.int .i64 x0, .int .i64 x1, .int .i64 x2, .int .i64 x3, .int .u16 x4, .int .u16 x5, .int .i64 x6, .int .i64 x7, .int .i64 x8, .int .i64 x9, .int .i64 x10, .int .i64 x11, .int .i64 x12, .int .i64 x13] 41)).alloc (.cells #[.int .i64 0, .int .i64 0, .int .i64 0] 58)).drew = w2 at HP HR HZ HB HSZ ⊢
  have hz := HSZ.out
  have hy := cells3 HZ.out
  obtain ⟨z0, z1, z2, z3, z4, z5⟩ := hy
  clear hz
  go_wp2
  have h1 := HZ.out
  have h2 := HB.out
  refine ret_rhear _ _ _ (w.heap.size + 1) 58 0 0 0 false rfl rfl rfl ?_ ⟨rfl, ?_⟩
  · ((repeat (first | (with_reducible assumption) | (with_reducible apply Blk.drew) | (with_reducible apply set_at2) | ((with_reducible apply set_far); (focus omega)) | (with_reducible apply Blk.alloc))); all_goals rfl)
  · (repeat (first | (with_reducible assumption) | (with_reducible apply below_drew) | ((with_reducible apply below_set); (focus omega)) | ((with_reducible apply below_at); (focus ((try simp only [size_set, size_drew, World.size_alloc]); omega)))))
set_option maxRecDepth 100000 in
set_option maxHeartbeats 800000 in
theorem rhear_no3 (r : Nat) (me st ss : Int) (sd sv sr : Int) (x0 x1 x2 x3 x4 x5 x6 x7 x8 x9 x10 x11 x12 x13 loc : Int) (w : World) (h : Rd w r me ⟨st, ss, true, sd, sv, sr⟩) (c1 : (x2 != me) = false) (c2 : (x1 != st) = true) :
    Calls Try.prog 24 #[.pointer (some ⟨r, 0, none⟩), .agg #[.int .i64 x0, .int .i64 x1, .int .i64 x2, .int .i64 x3, .int .u16 x4, .int .u16 x5, .int .i64 x6, .int .i64 x7, .int .i64 x8, .int .i64 x9, .int .i64 x10, .int .i64 x11, .int .i64 x12, .int .i64 x13], .int .i64 loc] w fun e w' => e = .returned (.tuple #[.agg #[.int .i64 0, .int .i64 0, .int .i64 0], .bool false]) ∧ Below w.heap.size w w' := by
  have HGD := Lib.hid (fun w => rgood_ok x9 x10 x11 loc w)
  have hbs : r < w.heap.size := h.lt
  have HP := Lib.hid ((h.alloc (.cells #[.int .i64 x0, .int .i64 x1, .int .i64 x2, .int .i64 x3, .int .u16 x4, .int .u16 x5, .int .i64 x6, .int .i64 x7, .int .i64 x8, .int .i64 x9, .int .i64 x10, .int .i64 x11, .int .i64 x12, .int .i64 x13] 41)).alloc (.cells #[.int .i64 0, .int .i64 0, .int .i64 0] 58)).drew
  have HR := Lib.hid ((Blk.new w 41 #[.int .i64 x0, .int .i64 x1, .int .i64 x2, .int .i64 x3, .int .u16 x4, .int .u16 x5, .int .i64 x6, .int .i64 x7, .int .i64 x8, .int .i64 x9, .int .i64 x10, .int .i64 x11, .int .i64 x12, .int .i64 x13]).alloc (.cells #[.int .i64 0, .int .i64 0, .int .i64 0] 58)).drew
  have HZ := Lib.hid (show Blk ((w.alloc (.cells #[.int .i64 x0, .int .i64 x1, .int .i64 x2, .int .i64 x3, .int .u16 x4, .int .u16 x5, .int .i64 x6, .int .i64 x7, .int .i64 x8, .int .i64 x9, .int .i64 x10, .int .i64 x11, .int .i64 x12, .int .i64 x13] 41)).alloc (.cells #[.int .i64 0, .int .i64 0, .int .i64 0] 58)).drew (w.heap.size + 1) 58 #[.int .i64 0, .int .i64 0, .int .i64 0] from (new_at (by simp)).drew)
  have HB := Lib.hid (show Below w.heap.size w ((w.alloc (.cells #[.int .i64 x0, .int .i64 x1, .int .i64 x2, .int .i64 x3, .int .u16 x4, .int .u16 x5, .int .i64 x6, .int .i64 x7, .int .i64 x8, .int .i64 x9, .int .i64 x10, .int .i64 x11, .int .i64 x12, .int .i64 x13] 41)).alloc (.cells #[.int .i64 0, .int .i64 0, .int .i64 0] 58)).drew from below_drew (((Below.refl _ w).alloc (Nat.le_refl _) _).alloc (by simp) _))
  have hsz : ((w.alloc (.cells #[.int .i64 x0, .int .i64 x1, .int .i64 x2, .int .i64 x3, .int .u16 x4, .int .u16 x5, .int .i64 x6, .int .i64 x7, .int .i64 x8, .int .i64 x9, .int .i64 x10, .int .i64 x11, .int .i64 x12, .int .i64 x13] 41)).alloc (.cells #[.int .i64 0, .int .i64 0, .int .i64 0] 58)).drew.heap.size = w.heap.size + 2 := by simp
  have HSZ := Lib.hid hsz
  clear h hsz
  go_enter Try.func24, Try.ntmps24
  go_wp2
  refine wp_region_seq [(0, true), (1, true), (2, true), (3, true), (4, true), (5, true), (6, true), (7, true), (8, true), (9, true), (10, true), (11, true), (12, true), (13, true), (14, true), (15, true), (16, true), (17, true), (18, true), (19, true), (20, true), (21, true), (22, true), (23, true), (24, true), (25, true), (26, true), (27, true), (28, true), (29, true), (30, true), (31, true), (32, true), (33, true), (34, true), (35, true), (36, true), (37, true), (38, true), (39, true), (40, false), (41, true), (42, true), (43, true), (44, true), (45, true), (46, true), (47, true), (48, true), (49, true), (50, true), (51, true), (52, true)] (fun w' => w'.cell? ⟨r, 0, none⟩ = some (.int .i64 me) ∧ w'.cell? ⟨r, 1, none⟩ = some (.int .i64 st) ∧ w'.cell? ⟨r, 2, none⟩ = some (.int .i64 ss) ∧ w'.cell? ⟨r, 3, none⟩ = some (.bool true) ∧ w'.cell? ⟨w.heap.size, 1, none⟩ = some (.int .i64 x1) ∧ w'.cell? ⟨w.heap.size, 2, none⟩ = some (.int .i64 x2) ∧ w'.cell? ⟨w.heap.size, 6, none⟩ = some (.int .i64 x6) ∧ w'.cell? ⟨w.heap.size, 9, none⟩ = some (.int .i64 x9) ∧ w'.cell? ⟨w.heap.size, 10, none⟩ = some (.int .i64 x10) ∧ w'.cell? ⟨w.heap.size, 11, none⟩ = some (.int .i64 x11)) (by kernel_rfl) (by kernel_rfl) ⟨HP.out.cell 0, HP.out.cell 1, HP.out.cell 2, HP.out.cell 3, HR.out.cell 1, HR.out.cell 2, HR.out.cell 6, HR.out.cell 9, HR.out.cell 10, HR.out.cell 11⟩ (fun hHeld => ?_)
  simp only [List.map_cons, List.map_nil, List.getElem?_toArray, List.getElem?_cons_zero, List.getElem?_cons_succ]
  repeat (first | (first | (refine seq_skip (by rfl) ?_; try simp only [Act.put, List.setIfInBounds_toArray, List.set_cons_zero, List.set_cons_succ]) | (refine seq_not (by rfl) (by assumption) ?_; try simp only [Act.put, List.setIfInBounds_toArray, List.set_cons_zero, List.set_cons_succ]) | (refine seq_take (v := ?_) (by rfl) ?_ ?_; rotate_left; (focus ((intro w hSw; (try dsimp only at hSw); go_simp; (try with_reducible rfl)); done)); try simp only [Act.put, List.setIfInBounds_toArray, List.set_cons_zero, List.set_cons_succ])) | (refine seq_do (fun K hK => ?_); go_simp; go_at_call 9; (with_reducible refine Calls.mono (HGD.out _) ?_); rintro e w' ⟨rfl, rfl⟩; dsimp only; refine hK.out _ _ (by assumption) (fun _ => ?_); clear hK K))
  refine seq_done ?_
  clear hHeld
  generalize ((w.alloc (.cells #[.int .i64 x0, .int .i64 x1, .int .i64 x2, .int .i64 x3, .int .u16 x4, .int .u16 x5, .int .i64 x6, .int .i64 x7, .int .i64 x8, .int .i64 x9, .int .i64 x10, .int .i64 x11, .int .i64 x12, .int .i64 x13] 41)).alloc (.cells #[.int .i64 0, .int .i64 0, .int .i64 0] 58)).drew = w2 at HP HR HZ HB HSZ ⊢
  have hz := HSZ.out
  have hy := cells3 HZ.out
  obtain ⟨z0, z1, z2, z3, z4, z5⟩ := hy
  clear hz
  go_wp2
  have h1 := HZ.out
  have h2 := HB.out
  refine ret_rhear _ _ _ (w.heap.size + 1) 58 0 0 0 false rfl rfl rfl ?_ ⟨rfl, ?_⟩
  · ((repeat (first | (with_reducible assumption) | (with_reducible apply Blk.drew) | (with_reducible apply set_at2) | ((with_reducible apply set_far); (focus omega)) | (with_reducible apply Blk.alloc))); all_goals rfl)
  · (repeat (first | (with_reducible assumption) | (with_reducible apply below_drew) | ((with_reducible apply below_set); (focus omega)) | ((with_reducible apply below_at); (focus ((try simp only [size_set, size_drew, World.size_alloc]); omega)))))
set_option maxRecDepth 100000 in
set_option maxHeartbeats 800000 in
theorem rhear_no4 (r : Nat) (me st ss : Int) (sd sv sr : Int) (x0 x1 x2 x3 x4 x5 x6 x7 x8 x9 x10 x11 x12 x13 loc : Int) (w : World) (h : Rd w r me ⟨st, ss, true, sd, sv, sr⟩) (c1 : (x2 != me) = false) (c2 : (x1 != st) = false) (c3 : (x9 != ss) = true) :
    Calls Try.prog 24 #[.pointer (some ⟨r, 0, none⟩), .agg #[.int .i64 x0, .int .i64 x1, .int .i64 x2, .int .i64 x3, .int .u16 x4, .int .u16 x5, .int .i64 x6, .int .i64 x7, .int .i64 x8, .int .i64 x9, .int .i64 x10, .int .i64 x11, .int .i64 x12, .int .i64 x13], .int .i64 loc] w fun e w' => e = .returned (.tuple #[.agg #[.int .i64 0, .int .i64 0, .int .i64 0], .bool false]) ∧ Below w.heap.size w w' := by
  have HGD := Lib.hid (fun w => rgood_ok x9 x10 x11 loc w)
  have hbs : r < w.heap.size := h.lt
  have HP := Lib.hid ((h.alloc (.cells #[.int .i64 x0, .int .i64 x1, .int .i64 x2, .int .i64 x3, .int .u16 x4, .int .u16 x5, .int .i64 x6, .int .i64 x7, .int .i64 x8, .int .i64 x9, .int .i64 x10, .int .i64 x11, .int .i64 x12, .int .i64 x13] 41)).alloc (.cells #[.int .i64 0, .int .i64 0, .int .i64 0] 58)).drew
  have HR := Lib.hid ((Blk.new w 41 #[.int .i64 x0, .int .i64 x1, .int .i64 x2, .int .i64 x3, .int .u16 x4, .int .u16 x5, .int .i64 x6, .int .i64 x7, .int .i64 x8, .int .i64 x9, .int .i64 x10, .int .i64 x11, .int .i64 x12, .int .i64 x13]).alloc (.cells #[.int .i64 0, .int .i64 0, .int .i64 0] 58)).drew
  have HZ := Lib.hid (show Blk ((w.alloc (.cells #[.int .i64 x0, .int .i64 x1, .int .i64 x2, .int .i64 x3, .int .u16 x4, .int .u16 x5, .int .i64 x6, .int .i64 x7, .int .i64 x8, .int .i64 x9, .int .i64 x10, .int .i64 x11, .int .i64 x12, .int .i64 x13] 41)).alloc (.cells #[.int .i64 0, .int .i64 0, .int .i64 0] 58)).drew (w.heap.size + 1) 58 #[.int .i64 0, .int .i64 0, .int .i64 0] from (new_at (by simp)).drew)
  have HB := Lib.hid (show Below w.heap.size w ((w.alloc (.cells #[.int .i64 x0, .int .i64 x1, .int .i64 x2, .int .i64 x3, .int .u16 x4, .int .u16 x5, .int .i64 x6, .int .i64 x7, .int .i64 x8, .int .i64 x9, .int .i64 x10, .int .i64 x11, .int .i64 x12, .int .i64 x13] 41)).alloc (.cells #[.int .i64 0, .int .i64 0, .int .i64 0] 58)).drew from below_drew (((Below.refl _ w).alloc (Nat.le_refl _) _).alloc (by simp) _))
  have hsz : ((w.alloc (.cells #[.int .i64 x0, .int .i64 x1, .int .i64 x2, .int .i64 x3, .int .u16 x4, .int .u16 x5, .int .i64 x6, .int .i64 x7, .int .i64 x8, .int .i64 x9, .int .i64 x10, .int .i64 x11, .int .i64 x12, .int .i64 x13] 41)).alloc (.cells #[.int .i64 0, .int .i64 0, .int .i64 0] 58)).drew.heap.size = w.heap.size + 2 := by simp
  have HSZ := Lib.hid hsz
  clear h hsz
  go_enter Try.func24, Try.ntmps24
  go_wp2
  refine wp_region_seq [(0, true), (1, true), (2, true), (3, true), (4, true), (5, true), (6, true), (7, true), (8, true), (9, true), (10, true), (11, true), (12, true), (13, true), (14, true), (15, true), (16, true), (17, true), (18, true), (19, true), (20, true), (21, true), (22, true), (23, true), (24, true), (25, true), (26, true), (27, true), (28, true), (29, true), (30, true), (31, true), (32, true), (33, true), (34, true), (35, true), (36, true), (37, true), (38, true), (39, true), (40, false), (41, true), (42, true), (43, true), (44, true), (45, true), (46, true), (47, true), (48, true), (49, true), (50, true), (51, true), (52, true)] (fun w' => w'.cell? ⟨r, 0, none⟩ = some (.int .i64 me) ∧ w'.cell? ⟨r, 1, none⟩ = some (.int .i64 st) ∧ w'.cell? ⟨r, 2, none⟩ = some (.int .i64 ss) ∧ w'.cell? ⟨r, 3, none⟩ = some (.bool true) ∧ w'.cell? ⟨w.heap.size, 1, none⟩ = some (.int .i64 x1) ∧ w'.cell? ⟨w.heap.size, 2, none⟩ = some (.int .i64 x2) ∧ w'.cell? ⟨w.heap.size, 6, none⟩ = some (.int .i64 x6) ∧ w'.cell? ⟨w.heap.size, 9, none⟩ = some (.int .i64 x9) ∧ w'.cell? ⟨w.heap.size, 10, none⟩ = some (.int .i64 x10) ∧ w'.cell? ⟨w.heap.size, 11, none⟩ = some (.int .i64 x11)) (by kernel_rfl) (by kernel_rfl) ⟨HP.out.cell 0, HP.out.cell 1, HP.out.cell 2, HP.out.cell 3, HR.out.cell 1, HR.out.cell 2, HR.out.cell 6, HR.out.cell 9, HR.out.cell 10, HR.out.cell 11⟩ (fun hHeld => ?_)
  simp only [List.map_cons, List.map_nil, List.getElem?_toArray, List.getElem?_cons_zero, List.getElem?_cons_succ]
  repeat (first | (first | (refine seq_skip (by rfl) ?_; try simp only [Act.put, List.setIfInBounds_toArray, List.set_cons_zero, List.set_cons_succ]) | (refine seq_not (by rfl) (by assumption) ?_; try simp only [Act.put, List.setIfInBounds_toArray, List.set_cons_zero, List.set_cons_succ]) | (refine seq_take (v := ?_) (by rfl) ?_ ?_; rotate_left; (focus ((intro w hSw; (try dsimp only at hSw); go_simp; (try with_reducible rfl)); done)); try simp only [Act.put, List.setIfInBounds_toArray, List.set_cons_zero, List.set_cons_succ])) | (refine seq_do (fun K hK => ?_); go_simp; go_at_call 9; (with_reducible refine Calls.mono (HGD.out _) ?_); rintro e w' ⟨rfl, rfl⟩; dsimp only; refine hK.out _ _ (by assumption) (fun _ => ?_); clear hK K))
  refine seq_done ?_
  clear hHeld
  generalize ((w.alloc (.cells #[.int .i64 x0, .int .i64 x1, .int .i64 x2, .int .i64 x3, .int .u16 x4, .int .u16 x5, .int .i64 x6, .int .i64 x7, .int .i64 x8, .int .i64 x9, .int .i64 x10, .int .i64 x11, .int .i64 x12, .int .i64 x13] 41)).alloc (.cells #[.int .i64 0, .int .i64 0, .int .i64 0] 58)).drew = w2 at HP HR HZ HB HSZ ⊢
  have hz := HSZ.out
  have hy := cells3 HZ.out
  obtain ⟨z0, z1, z2, z3, z4, z5⟩ := hy
  clear hz
  go_wp2
  have h1 := HZ.out
  have h2 := HB.out
  refine ret_rhear _ _ _ (w.heap.size + 1) 58 0 0 0 false rfl rfl rfl ?_ ⟨rfl, ?_⟩
  · ((repeat (first | (with_reducible assumption) | (with_reducible apply Blk.drew) | (with_reducible apply set_at2) | ((with_reducible apply set_far); (focus omega)) | (with_reducible apply Blk.alloc))); all_goals rfl)
  · (repeat (first | (with_reducible assumption) | (with_reducible apply below_drew) | ((with_reducible apply below_set); (focus omega)) | ((with_reducible apply below_at); (focus ((try simp only [size_set, size_drew, World.size_alloc]); omega)))))
set_option maxRecDepth 100000 in
set_option maxHeartbeats 800000 in
theorem rhear_no5 (r : Nat) (me st ss : Int) (sd sv sr : Int) (x0 x1 x2 x3 x4 x5 x6 x7 x8 x9 x10 x11 x12 x13 loc : Int) (w : World) (h : Rd w r me ⟨st, ss, true, sd, sv, sr⟩) (c1 : (x2 != me) = false) (c2 : (x1 != st) = false) (c3 : (x9 != ss) = false) (hg : tg x9 x10 x11 loc = false) :
    Calls Try.prog 24 #[.pointer (some ⟨r, 0, none⟩), .agg #[.int .i64 x0, .int .i64 x1, .int .i64 x2, .int .i64 x3, .int .u16 x4, .int .u16 x5, .int .i64 x6, .int .i64 x7, .int .i64 x8, .int .i64 x9, .int .i64 x10, .int .i64 x11, .int .i64 x12, .int .i64 x13], .int .i64 loc] w fun e w' => e = .returned (.tuple #[.agg #[.int .i64 0, .int .i64 0, .int .i64 0], .bool false]) ∧ Below w.heap.size w w' := by
  have HGD := Lib.hid (fun w => show Calls Try.prog 9 #[.int .i64 x9, .int .i64 x10, .int .i64 x11, .int .i64 loc] w fun e w' => e = .returned (.bool false) ∧ w = w' from hg ▸ rgood_ok x9 x10 x11 loc w)
  clear hg
  have hbs : r < w.heap.size := h.lt
  have HP := Lib.hid ((h.alloc (.cells #[.int .i64 x0, .int .i64 x1, .int .i64 x2, .int .i64 x3, .int .u16 x4, .int .u16 x5, .int .i64 x6, .int .i64 x7, .int .i64 x8, .int .i64 x9, .int .i64 x10, .int .i64 x11, .int .i64 x12, .int .i64 x13] 41)).alloc (.cells #[.int .i64 0, .int .i64 0, .int .i64 0] 58)).drew
  have HR := Lib.hid ((Blk.new w 41 #[.int .i64 x0, .int .i64 x1, .int .i64 x2, .int .i64 x3, .int .u16 x4, .int .u16 x5, .int .i64 x6, .int .i64 x7, .int .i64 x8, .int .i64 x9, .int .i64 x10, .int .i64 x11, .int .i64 x12, .int .i64 x13]).alloc (.cells #[.int .i64 0, .int .i64 0, .int .i64 0] 58)).drew
  have HZ := Lib.hid (show Blk ((w.alloc (.cells #[.int .i64 x0, .int .i64 x1, .int .i64 x2, .int .i64 x3, .int .u16 x4, .int .u16 x5, .int .i64 x6, .int .i64 x7, .int .i64 x8, .int .i64 x9, .int .i64 x10, .int .i64 x11, .int .i64 x12, .int .i64 x13] 41)).alloc (.cells #[.int .i64 0, .int .i64 0, .int .i64 0] 58)).drew (w.heap.size + 1) 58 #[.int .i64 0, .int .i64 0, .int .i64 0] from (new_at (by simp)).drew)
  have HB := Lib.hid (show Below w.heap.size w ((w.alloc (.cells #[.int .i64 x0, .int .i64 x1, .int .i64 x2, .int .i64 x3, .int .u16 x4, .int .u16 x5, .int .i64 x6, .int .i64 x7, .int .i64 x8, .int .i64 x9, .int .i64 x10, .int .i64 x11, .int .i64 x12, .int .i64 x13] 41)).alloc (.cells #[.int .i64 0, .int .i64 0, .int .i64 0] 58)).drew from below_drew (((Below.refl _ w).alloc (Nat.le_refl _) _).alloc (by simp) _))
  have hsz : ((w.alloc (.cells #[.int .i64 x0, .int .i64 x1, .int .i64 x2, .int .i64 x3, .int .u16 x4, .int .u16 x5, .int .i64 x6, .int .i64 x7, .int .i64 x8, .int .i64 x9, .int .i64 x10, .int .i64 x11, .int .i64 x12, .int .i64 x13] 41)).alloc (.cells #[.int .i64 0, .int .i64 0, .int .i64 0] 58)).drew.heap.size = w.heap.size + 2 := by simp
  have HSZ := Lib.hid hsz
  clear h hsz
  go_enter Try.func24, Try.ntmps24
  go_wp2
  refine wp_region_seq [(0, true), (1, true), (2, true), (3, true), (4, true), (5, true), (6, true), (7, true), (8, true), (9, true), (10, true), (11, true), (12, true), (13, true), (14, true), (15, true), (16, true), (17, true), (18, true), (19, true), (20, true), (21, true), (22, true), (23, true), (24, true), (25, true), (26, true), (27, true), (28, true), (29, true), (30, true), (31, true), (32, true), (33, true), (34, true), (35, true), (36, true), (37, true), (38, true), (39, true), (40, false), (41, true), (42, true), (43, true), (44, true), (45, true), (46, true), (47, true), (48, true), (49, true), (50, true), (51, true), (52, true)] (fun w' => w'.cell? ⟨r, 0, none⟩ = some (.int .i64 me) ∧ w'.cell? ⟨r, 1, none⟩ = some (.int .i64 st) ∧ w'.cell? ⟨r, 2, none⟩ = some (.int .i64 ss) ∧ w'.cell? ⟨r, 3, none⟩ = some (.bool true) ∧ w'.cell? ⟨w.heap.size, 1, none⟩ = some (.int .i64 x1) ∧ w'.cell? ⟨w.heap.size, 2, none⟩ = some (.int .i64 x2) ∧ w'.cell? ⟨w.heap.size, 6, none⟩ = some (.int .i64 x6) ∧ w'.cell? ⟨w.heap.size, 9, none⟩ = some (.int .i64 x9) ∧ w'.cell? ⟨w.heap.size, 10, none⟩ = some (.int .i64 x10) ∧ w'.cell? ⟨w.heap.size, 11, none⟩ = some (.int .i64 x11)) (by kernel_rfl) (by kernel_rfl) ⟨HP.out.cell 0, HP.out.cell 1, HP.out.cell 2, HP.out.cell 3, HR.out.cell 1, HR.out.cell 2, HR.out.cell 6, HR.out.cell 9, HR.out.cell 10, HR.out.cell 11⟩ (fun hHeld => ?_)
  simp only [List.map_cons, List.map_nil, List.getElem?_toArray, List.getElem?_cons_zero, List.getElem?_cons_succ]
  repeat (first | (first | (refine seq_skip (by rfl) ?_; try simp only [Act.put, List.setIfInBounds_toArray, List.set_cons_zero, List.set_cons_succ]) | (refine seq_not (by rfl) (by assumption) ?_; try simp only [Act.put, List.setIfInBounds_toArray, List.set_cons_zero, List.set_cons_succ]) | (refine seq_take (v := ?_) (by rfl) ?_ ?_; rotate_left; (focus ((intro w hSw; (try dsimp only at hSw); go_simp; (try with_reducible rfl)); done)); try simp only [Act.put, List.setIfInBounds_toArray, List.set_cons_zero, List.set_cons_succ])) | (refine seq_do (fun K hK => ?_); go_simp; go_at_call 9; (with_reducible refine Calls.mono (HGD.out _) ?_); rintro e w' ⟨rfl, rfl⟩; dsimp only; refine hK.out _ _ (by assumption) (fun _ => ?_); clear hK K))
  refine seq_done ?_
  clear hHeld
  generalize ((w.alloc (.cells #[.int .i64 x0, .int .i64 x1, .int .i64 x2, .int .i64 x3, .int .u16 x4, .int .u16 x5, .int .i64 x6, .int .i64 x7, .int .i64 x8, .int .i64 x9, .int .i64 x10, .int .i64 x11, .int .i64 x12, .int .i64 x13] 41)).alloc (.cells #[.int .i64 0, .int .i64 0, .int .i64 0] 58)).drew = w2 at HP HR HZ HB HSZ ⊢
  have hz := HSZ.out
  have hy := cells3 HZ.out
  obtain ⟨z0, z1, z2, z3, z4, z5⟩ := hy
  clear hz
  go_wp2
  have h1 := HZ.out
  have h2 := HB.out
  refine ret_rhear _ _ _ (w.heap.size + 1) 58 0 0 0 false rfl rfl rfl ?_ ⟨rfl, ?_⟩
  · ((repeat (first | (with_reducible assumption) | (with_reducible apply Blk.drew) | (with_reducible apply set_at2) | ((with_reducible apply set_far); (focus omega)) | (with_reducible apply Blk.alloc))); all_goals rfl)
  · (repeat (first | (with_reducible assumption) | (with_reducible apply below_drew) | ((with_reducible apply below_set); (focus omega)) | ((with_reducible apply below_at); (focus ((try simp only [size_set, size_drew, World.size_alloc]); omega)))))
set_option maxRecDepth 100000 in
set_option maxHeartbeats 800000 in
theorem rhear_no6 (r : Nat) (me st ss : Int) (sd sv sr : Int) (x0 x1 x2 x3 x4 x5 x6 x7 x8 x9 x10 x11 x12 x13 loc : Int) (w : World) (h : Rd w r me ⟨st, ss, true, sd, sv, sr⟩) (c1 : (x2 != me) = false) (c2 : (x1 != st) = false) (c3 : (x9 != ss) = false) (hg : tg x9 x10 x11 loc = true) (hh : x6 < 0) :
    Calls Try.prog 24 #[.pointer (some ⟨r, 0, none⟩), .agg #[.int .i64 x0, .int .i64 x1, .int .i64 x2, .int .i64 x3, .int .u16 x4, .int .u16 x5, .int .i64 x6, .int .i64 x7, .int .i64 x8, .int .i64 x9, .int .i64 x10, .int .i64 x11, .int .i64 x12, .int .i64 x13], .int .i64 loc] w fun e w' => e = .returned (.tuple #[.agg #[.int .i64 0, .int .i64 0, .int .i64 0], .bool false]) ∧ Below w.heap.size w w' := by
  have HGD := Lib.hid (fun w => show Calls Try.prog 9 #[.int .i64 x9, .int .i64 x10, .int .i64 x11, .int .i64 loc] w fun e w' => e = .returned (.bool true) ∧ w = w' from hg ▸ rgood_ok x9 x10 x11 loc w)
  have hhd : decide (x6 < 0) = true := decide_eq_true hh
  clear hg
  have hbs : r < w.heap.size := h.lt
  have HP := Lib.hid ((h.alloc (.cells #[.int .i64 x0, .int .i64 x1, .int .i64 x2, .int .i64 x3, .int .u16 x4, .int .u16 x5, .int .i64 x6, .int .i64 x7, .int .i64 x8, .int .i64 x9, .int .i64 x10, .int .i64 x11, .int .i64 x12, .int .i64 x13] 41)).alloc (.cells #[.int .i64 0, .int .i64 0, .int .i64 0] 58)).drew
  have HR := Lib.hid ((Blk.new w 41 #[.int .i64 x0, .int .i64 x1, .int .i64 x2, .int .i64 x3, .int .u16 x4, .int .u16 x5, .int .i64 x6, .int .i64 x7, .int .i64 x8, .int .i64 x9, .int .i64 x10, .int .i64 x11, .int .i64 x12, .int .i64 x13]).alloc (.cells #[.int .i64 0, .int .i64 0, .int .i64 0] 58)).drew
  have HZ := Lib.hid (show Blk ((w.alloc (.cells #[.int .i64 x0, .int .i64 x1, .int .i64 x2, .int .i64 x3, .int .u16 x4, .int .u16 x5, .int .i64 x6, .int .i64 x7, .int .i64 x8, .int .i64 x9, .int .i64 x10, .int .i64 x11, .int .i64 x12, .int .i64 x13] 41)).alloc (.cells #[.int .i64 0, .int .i64 0, .int .i64 0] 58)).drew (w.heap.size + 1) 58 #[.int .i64 0, .int .i64 0, .int .i64 0] from (new_at (by simp)).drew)
  have HB := Lib.hid (show Below w.heap.size w ((w.alloc (.cells #[.int .i64 x0, .int .i64 x1, .int .i64 x2, .int .i64 x3, .int .u16 x4, .int .u16 x5, .int .i64 x6, .int .i64 x7, .int .i64 x8, .int .i64 x9, .int .i64 x10, .int .i64 x11, .int .i64 x12, .int .i64 x13] 41)).alloc (.cells #[.int .i64 0, .int .i64 0, .int .i64 0] 58)).drew from below_drew (((Below.refl _ w).alloc (Nat.le_refl _) _).alloc (by simp) _))
  have hsz : ((w.alloc (.cells #[.int .i64 x0, .int .i64 x1, .int .i64 x2, .int .i64 x3, .int .u16 x4, .int .u16 x5, .int .i64 x6, .int .i64 x7, .int .i64 x8, .int .i64 x9, .int .i64 x10, .int .i64 x11, .int .i64 x12, .int .i64 x13] 41)).alloc (.cells #[.int .i64 0, .int .i64 0, .int .i64 0] 58)).drew.heap.size = w.heap.size + 2 := by simp
  have HSZ := Lib.hid hsz
  clear h hsz
  go_enter Try.func24, Try.ntmps24
  go_wp2
  refine wp_region_seq [(0, true), (1, true), (2, true), (3, true), (4, true), (5, true), (6, true), (7, true), (8, true), (9, true), (10, true), (11, true), (12, true), (13, true), (14, true), (15, true), (16, true), (17, true), (18, true), (19, true), (20, true), (21, true), (22, true), (23, true), (24, true), (25, true), (26, true), (27, true), (28, true), (29, true), (30, true), (31, true), (32, true), (33, true), (34, true), (35, true), (36, true), (37, true), (38, true), (39, true), (40, false), (41, true), (42, true), (43, true), (44, true), (45, true), (46, true), (47, true), (48, true), (49, true), (50, true), (51, true), (52, true)] (fun w' => w'.cell? ⟨r, 0, none⟩ = some (.int .i64 me) ∧ w'.cell? ⟨r, 1, none⟩ = some (.int .i64 st) ∧ w'.cell? ⟨r, 2, none⟩ = some (.int .i64 ss) ∧ w'.cell? ⟨r, 3, none⟩ = some (.bool true) ∧ w'.cell? ⟨w.heap.size, 1, none⟩ = some (.int .i64 x1) ∧ w'.cell? ⟨w.heap.size, 2, none⟩ = some (.int .i64 x2) ∧ w'.cell? ⟨w.heap.size, 6, none⟩ = some (.int .i64 x6) ∧ w'.cell? ⟨w.heap.size, 9, none⟩ = some (.int .i64 x9) ∧ w'.cell? ⟨w.heap.size, 10, none⟩ = some (.int .i64 x10) ∧ w'.cell? ⟨w.heap.size, 11, none⟩ = some (.int .i64 x11)) (by kernel_rfl) (by kernel_rfl) ⟨HP.out.cell 0, HP.out.cell 1, HP.out.cell 2, HP.out.cell 3, HR.out.cell 1, HR.out.cell 2, HR.out.cell 6, HR.out.cell 9, HR.out.cell 10, HR.out.cell 11⟩ (fun hHeld => ?_)
  simp only [List.map_cons, List.map_nil, List.getElem?_toArray, List.getElem?_cons_zero, List.getElem?_cons_succ]
  repeat (first | (first | (refine seq_skip (by rfl) ?_; try simp only [Act.put, List.setIfInBounds_toArray, List.set_cons_zero, List.set_cons_succ]) | (refine seq_not (by rfl) (by assumption) ?_; try simp only [Act.put, List.setIfInBounds_toArray, List.set_cons_zero, List.set_cons_succ]) | (refine seq_take (v := ?_) (by rfl) ?_ ?_; rotate_left; (focus ((intro w hSw; (try dsimp only at hSw); go_simp; (try with_reducible rfl)); done)); try simp only [Act.put, List.setIfInBounds_toArray, List.set_cons_zero, List.set_cons_succ])) | (refine seq_do (fun K hK => ?_); go_simp; go_at_call 9; (with_reducible refine Calls.mono (HGD.out _) ?_); rintro e w' ⟨rfl, rfl⟩; dsimp only; refine hK.out _ _ (by assumption) (fun _ => ?_); clear hK K))
  refine seq_done ?_
  clear hHeld
  generalize ((w.alloc (.cells #[.int .i64 x0, .int .i64 x1, .int .i64 x2, .int .i64 x3, .int .u16 x4, .int .u16 x5, .int .i64 x6, .int .i64 x7, .int .i64 x8, .int .i64 x9, .int .i64 x10, .int .i64 x11, .int .i64 x12, .int .i64 x13] 41)).alloc (.cells #[.int .i64 0, .int .i64 0, .int .i64 0] 58)).drew = w2 at HP HR HZ HB HSZ ⊢
  have hz := HSZ.out
  have hy := cells3 HZ.out
  obtain ⟨z0, z1, z2, z3, z4, z5⟩ := hy
  clear hz
  go_wp2
  have h1 := HZ.out
  have h2 := HB.out
  refine ret_rhear _ _ _ (w.heap.size + 1) 58 0 0 0 false rfl rfl rfl ?_ ⟨rfl, ?_⟩
  · ((repeat (first | (with_reducible assumption) | (with_reducible apply Blk.drew) | (with_reducible apply set_at2) | ((with_reducible apply set_far); (focus omega)) | (with_reducible apply Blk.alloc))); all_goals rfl)
  · (repeat (first | (with_reducible assumption) | (with_reducible apply below_drew) | ((with_reducible apply below_set); (focus omega)) | ((with_reducible apply below_at); (focus ((try simp only [size_set, size_drew, World.size_alloc]); omega)))))
set_option maxRecDepth 100000 in
set_option maxHeartbeats 800000 in
theorem rhear_no7 (r : Nat) (me st ss : Int) (sd sv sr : Int) (x0 x1 x2 x3 x4 x5 x6 x7 x8 x9 x10 x11 x12 x13 loc : Int) (w : World) (h : Rd w r me ⟨st, ss, true, sd, sv, sr⟩) (c1 : (x2 != me) = false) (c2 : (x1 != st) = false) (c3 : (x9 != ss) = false) (hg : tg x9 x10 x11 loc = true) (hh : ¬ x6 < 0) (hh2 : 62 < x6) :
    Calls Try.prog 24 #[.pointer (some ⟨r, 0, none⟩), .agg #[.int .i64 x0, .int .i64 x1, .int .i64 x2, .int .i64 x3, .int .u16 x4, .int .u16 x5, .int .i64 x6, .int .i64 x7, .int .i64 x8, .int .i64 x9, .int .i64 x10, .int .i64 x11, .int .i64 x12, .int .i64 x13], .int .i64 loc] w fun e w' => e = .returned (.tuple #[.agg #[.int .i64 0, .int .i64 0, .int .i64 0], .bool false]) ∧ Below w.heap.size w w' := by
  have HGD := Lib.hid (fun w => show Calls Try.prog 9 #[.int .i64 x9, .int .i64 x10, .int .i64 x11, .int .i64 loc] w fun e w' => e = .returned (.bool true) ∧ w = w' from hg ▸ rgood_ok x9 x10 x11 loc w)
  have hhd : decide (x6 < 0) = false := decide_eq_false hh
  have hhe : decide (62 < x6) = true := decide_eq_true hh2
  clear hg
  have hbs : r < w.heap.size := h.lt
  have HP := Lib.hid ((h.alloc (.cells #[.int .i64 x0, .int .i64 x1, .int .i64 x2, .int .i64 x3, .int .u16 x4, .int .u16 x5, .int .i64 x6, .int .i64 x7, .int .i64 x8, .int .i64 x9, .int .i64 x10, .int .i64 x11, .int .i64 x12, .int .i64 x13] 41)).alloc (.cells #[.int .i64 0, .int .i64 0, .int .i64 0] 58)).drew
  have HR := Lib.hid ((Blk.new w 41 #[.int .i64 x0, .int .i64 x1, .int .i64 x2, .int .i64 x3, .int .u16 x4, .int .u16 x5, .int .i64 x6, .int .i64 x7, .int .i64 x8, .int .i64 x9, .int .i64 x10, .int .i64 x11, .int .i64 x12, .int .i64 x13]).alloc (.cells #[.int .i64 0, .int .i64 0, .int .i64 0] 58)).drew
  have HZ := Lib.hid (show Blk ((w.alloc (.cells #[.int .i64 x0, .int .i64 x1, .int .i64 x2, .int .i64 x3, .int .u16 x4, .int .u16 x5, .int .i64 x6, .int .i64 x7, .int .i64 x8, .int .i64 x9, .int .i64 x10, .int .i64 x11, .int .i64 x12, .int .i64 x13] 41)).alloc (.cells #[.int .i64 0, .int .i64 0, .int .i64 0] 58)).drew (w.heap.size + 1) 58 #[.int .i64 0, .int .i64 0, .int .i64 0] from (new_at (by simp)).drew)
  have HB := Lib.hid (show Below w.heap.size w ((w.alloc (.cells #[.int .i64 x0, .int .i64 x1, .int .i64 x2, .int .i64 x3, .int .u16 x4, .int .u16 x5, .int .i64 x6, .int .i64 x7, .int .i64 x8, .int .i64 x9, .int .i64 x10, .int .i64 x11, .int .i64 x12, .int .i64 x13] 41)).alloc (.cells #[.int .i64 0, .int .i64 0, .int .i64 0] 58)).drew from below_drew (((Below.refl _ w).alloc (Nat.le_refl _) _).alloc (by simp) _))
  have hsz : ((w.alloc (.cells #[.int .i64 x0, .int .i64 x1, .int .i64 x2, .int .i64 x3, .int .u16 x4, .int .u16 x5, .int .i64 x6, .int .i64 x7, .int .i64 x8, .int .i64 x9, .int .i64 x10, .int .i64 x11, .int .i64 x12, .int .i64 x13] 41)).alloc (.cells #[.int .i64 0, .int .i64 0, .int .i64 0] 58)).drew.heap.size = w.heap.size + 2 := by simp
  have HSZ := Lib.hid hsz
  clear h hsz
  go_enter Try.func24, Try.ntmps24
  go_wp2
  refine wp_region_seq [(0, true), (1, true), (2, true), (3, true), (4, true), (5, true), (6, true), (7, true), (8, true), (9, true), (10, true), (11, true), (12, true), (13, true), (14, true), (15, true), (16, true), (17, true), (18, true), (19, true), (20, true), (21, true), (22, true), (23, true), (24, true), (25, true), (26, true), (27, true), (28, true), (29, true), (30, true), (31, true), (32, true), (33, true), (34, true), (35, true), (36, true), (37, true), (38, true), (39, true), (40, false), (41, true), (42, true), (43, true), (44, true), (45, true), (46, true), (47, true), (48, true), (49, true), (50, true), (51, true), (52, true)] (fun w' => w'.cell? ⟨r, 0, none⟩ = some (.int .i64 me) ∧ w'.cell? ⟨r, 1, none⟩ = some (.int .i64 st) ∧ w'.cell? ⟨r, 2, none⟩ = some (.int .i64 ss) ∧ w'.cell? ⟨r, 3, none⟩ = some (.bool true) ∧ w'.cell? ⟨w.heap.size, 1, none⟩ = some (.int .i64 x1) ∧ w'.cell? ⟨w.heap.size, 2, none⟩ = some (.int .i64 x2) ∧ w'.cell? ⟨w.heap.size, 6, none⟩ = some (.int .i64 x6) ∧ w'.cell? ⟨w.heap.size, 9, none⟩ = some (.int .i64 x9) ∧ w'.cell? ⟨w.heap.size, 10, none⟩ = some (.int .i64 x10) ∧ w'.cell? ⟨w.heap.size, 11, none⟩ = some (.int .i64 x11)) (by kernel_rfl) (by kernel_rfl) ⟨HP.out.cell 0, HP.out.cell 1, HP.out.cell 2, HP.out.cell 3, HR.out.cell 1, HR.out.cell 2, HR.out.cell 6, HR.out.cell 9, HR.out.cell 10, HR.out.cell 11⟩ (fun hHeld => ?_)
  simp only [List.map_cons, List.map_nil, List.getElem?_toArray, List.getElem?_cons_zero, List.getElem?_cons_succ]
  repeat (first | (first | (refine seq_skip (by rfl) ?_; try simp only [Act.put, List.setIfInBounds_toArray, List.set_cons_zero, List.set_cons_succ]) | (refine seq_not (by rfl) (by assumption) ?_; try simp only [Act.put, List.setIfInBounds_toArray, List.set_cons_zero, List.set_cons_succ]) | (refine seq_take (v := ?_) (by rfl) ?_ ?_; rotate_left; (focus ((intro w hSw; (try dsimp only at hSw); go_simp; (try with_reducible rfl)); done)); try simp only [Act.put, List.setIfInBounds_toArray, List.set_cons_zero, List.set_cons_succ])) | (refine seq_do (fun K hK => ?_); go_simp; go_at_call 9; (with_reducible refine Calls.mono (HGD.out _) ?_); rintro e w' ⟨rfl, rfl⟩; dsimp only; refine hK.out _ _ (by assumption) (fun _ => ?_); clear hK K))
  refine seq_done ?_
  clear hHeld
  generalize ((w.alloc (.cells #[.int .i64 x0, .int .i64 x1, .int .i64 x2, .int .i64 x3, .int .u16 x4, .int .u16 x5, .int .i64 x6, .int .i64 x7, .int .i64 x8, .int .i64 x9, .int .i64 x10, .int .i64 x11, .int .i64 x12, .int .i64 x13] 41)).alloc (.cells #[.int .i64 0, .int .i64 0, .int .i64 0] 58)).drew = w2 at HP HR HZ HB HSZ ⊢
  have hz := HSZ.out
  have hy := cells3 HZ.out
  obtain ⟨z0, z1, z2, z3, z4, z5⟩ := hy
  clear hz
  go_wp2
  have h1 := HZ.out
  have h2 := HB.out
  refine ret_rhear _ _ _ (w.heap.size + 1) 58 0 0 0 false rfl rfl rfl ?_ ⟨rfl, ?_⟩
  · ((repeat (first | (with_reducible assumption) | (with_reducible apply Blk.drew) | (with_reducible apply set_at2) | ((with_reducible apply set_far); (focus omega)) | (with_reducible apply Blk.alloc))); all_goals rfl)
  · (repeat (first | (with_reducible assumption) | (with_reducible apply below_drew) | ((with_reducible apply below_set); (focus omega)) | ((with_reducible apply below_at); (focus ((try simp only [size_set, size_drew, World.size_alloc]); omega)))))
set_option maxRecDepth 100000 in
set_option maxHeartbeats 800000 in
theorem rhear_yes (r : Nat) (me st ss : Int) (sd sv sr : Int) (x0 x1 x2 x3 x4 x5 x6 x7 x8 x9 x10 x11 x12 x13 loc : Int) (w : World) (h : Rd w r me ⟨st, ss, true, sd, sv, sr⟩) (c1 : (x2 != me) = false) (c2 : (x1 != st) = false) (c3 : (x9 != ss) = false) (hg : tg x9 x10 x11 loc = true) (hh0 : 0 ≤ x6) (hh9 : x6 ≤ 62) :
    Calls Try.prog 24 #[.pointer (some ⟨r, 0, none⟩), .agg #[.int .i64 x0, .int .i64 x1, .int .i64 x2, .int .i64 x3, .int .u16 x4, .int .u16 x5, .int .i64 x6, .int .i64 x7, .int .i64 x8, .int .i64 x9, .int .i64 x10, .int .i64 x11, .int .i64 x12, .int .i64 x13], .int .i64 loc] w fun e w' => e = .returned (.tuple #[.agg #[.int .i64 loc, .int .i64 (offs x9 x10 x11 loc), .int .i64 (x6 + 1)], .bool true]) ∧ Rd w' r me ⟨st, ss, false, sd, 0, sr⟩ ∧ Kp (fun k => k = r) w w' := by
  have HGD := Lib.hid (fun w => show Calls Try.prog 9 #[.int .i64 x9, .int .i64 x10, .int .i64 x11, .int .i64 loc] w fun e w' => e = .returned (.bool true) ∧ w = w' from hg ▸ rgood_ok x9 x10 x11 loc w)
  have hhd : decide (x6 < 0) = false := decide_eq_false (by omega)
  have hhe : decide (62 < x6) = false := decide_eq_false (by omega)
  obtain ⟨h1, hh1⟩ : ∃ h1, IntKind.i64.wrap (x6 + 1) = h1 := ⟨_, rfl⟩
  have hh2 : h1 = x6 + 1 := by rw [← hh1]; exact IntWalk.i64_in _ (by omega)
  have hgg := tg_iff.1 hg
  obtain ⟨o, ho⟩ : ∃ o : Int, o = offs x9 x10 x11 loc := ⟨_, rfl⟩
  have ho1 : -1125899906842624 ≤ o ∧ o ≤ 1125899906842624 := by rw [ho]; unfold offs; omega
  have HO := Lib.hid (fun w => ho ▸ roffset_ok x9 x10 x11 loc w hg)
  have HE := Lib.hid (fun w => regood_yes loc o h1 w (by omega) (by omega) ho1.1 ho1.2 (by omega) (by omega))
  have HOO := Lib.hid ho
  have HH1 := Lib.hid hh2
  clear hg ho hgg ho1 hh2 hh0 hh9
  have hbs : r < w.heap.size := h.lt
  have HP := Lib.hid ((h.alloc (.cells #[.int .i64 x0, .int .i64 x1, .int .i64 x2, .int .i64 x3, .int .u16 x4, .int .u16 x5, .int .i64 x6, .int .i64 x7, .int .i64 x8, .int .i64 x9, .int .i64 x10, .int .i64 x11, .int .i64 x12, .int .i64 x13] 41)).alloc (.cells #[.int .i64 0, .int .i64 0, .int .i64 0] 58)).drew
  have HR := Lib.hid ((Blk.new w 41 #[.int .i64 x0, .int .i64 x1, .int .i64 x2, .int .i64 x3, .int .u16 x4, .int .u16 x5, .int .i64 x6, .int .i64 x7, .int .i64 x8, .int .i64 x9, .int .i64 x10, .int .i64 x11, .int .i64 x12, .int .i64 x13]).alloc (.cells #[.int .i64 0, .int .i64 0, .int .i64 0] 58)).drew
  have HZ := Lib.hid (show Blk ((w.alloc (.cells #[.int .i64 x0, .int .i64 x1, .int .i64 x2, .int .i64 x3, .int .u16 x4, .int .u16 x5, .int .i64 x6, .int .i64 x7, .int .i64 x8, .int .i64 x9, .int .i64 x10, .int .i64 x11, .int .i64 x12, .int .i64 x13] 41)).alloc (.cells #[.int .i64 0, .int .i64 0, .int .i64 0] 58)).drew (w.heap.size + 1) 58 #[.int .i64 0, .int .i64 0, .int .i64 0] from (new_at (by simp)).drew)
  have HB := Lib.hid (show Below w.heap.size w ((w.alloc (.cells #[.int .i64 x0, .int .i64 x1, .int .i64 x2, .int .i64 x3, .int .u16 x4, .int .u16 x5, .int .i64 x6, .int .i64 x7, .int .i64 x8, .int .i64 x9, .int .i64 x10, .int .i64 x11, .int .i64 x12, .int .i64 x13] 41)).alloc (.cells #[.int .i64 0, .int .i64 0, .int .i64 0] 58)).drew from below_drew (((Below.refl _ w).alloc (Nat.le_refl _) _).alloc (by simp) _))
  have hsz : ((w.alloc (.cells #[.int .i64 x0, .int .i64 x1, .int .i64 x2, .int .i64 x3, .int .u16 x4, .int .u16 x5, .int .i64 x6, .int .i64 x7, .int .i64 x8, .int .i64 x9, .int .i64 x10, .int .i64 x11, .int .i64 x12, .int .i64 x13] 41)).alloc (.cells #[.int .i64 0, .int .i64 0, .int .i64 0] 58)).drew.heap.size = w.heap.size + 2 := by simp
  have HSZ := Lib.hid hsz
  clear h hsz
  go_enter Try.func24, Try.ntmps24
  go_wp2
  refine wp_region_seq [(0, true), (1, true), (2, true), (3, true), (4, true), (5, true), (6, true), (7, true), (8, true), (9, true), (10, true), (11, true), (12, true), (13, true), (14, true), (15, true), (16, true), (17, true), (18, true), (19, true), (20, true), (21, true), (22, true), (23, true), (24, true), (25, true), (26, true), (27, true), (28, true), (29, true), (30, true), (31, true), (32, true), (33, true), (34, true), (35, true), (36, true), (37, true), (38, true), (39, true), (40, false), (41, true), (42, true), (43, true), (44, true), (45, true), (46, true), (47, true), (48, true), (49, true), (50, true), (51, true), (52, true)] (fun w' => w'.cell? ⟨r, 0, none⟩ = some (.int .i64 me) ∧ w'.cell? ⟨r, 1, none⟩ = some (.int .i64 st) ∧ w'.cell? ⟨r, 2, none⟩ = some (.int .i64 ss) ∧ w'.cell? ⟨r, 3, none⟩ = some (.bool true) ∧ w'.cell? ⟨w.heap.size, 1, none⟩ = some (.int .i64 x1) ∧ w'.cell? ⟨w.heap.size, 2, none⟩ = some (.int .i64 x2) ∧ w'.cell? ⟨w.heap.size, 6, none⟩ = some (.int .i64 x6) ∧ w'.cell? ⟨w.heap.size, 9, none⟩ = some (.int .i64 x9) ∧ w'.cell? ⟨w.heap.size, 10, none⟩ = some (.int .i64 x10) ∧ w'.cell? ⟨w.heap.size, 11, none⟩ = some (.int .i64 x11)) (by kernel_rfl) (by kernel_rfl) ⟨HP.out.cell 0, HP.out.cell 1, HP.out.cell 2, HP.out.cell 3, HR.out.cell 1, HR.out.cell 2, HR.out.cell 6, HR.out.cell 9, HR.out.cell 10, HR.out.cell 11⟩ (fun hHeld => ?_)
  simp only [List.map_cons, List.map_nil, List.getElem?_toArray, List.getElem?_cons_zero, List.getElem?_cons_succ]
  repeat (first | (first | (refine seq_skip (by rfl) ?_; try simp only [Act.put, List.setIfInBounds_toArray, List.set_cons_zero, List.set_cons_succ]) | (refine seq_not (by rfl) (by assumption) ?_; try simp only [Act.put, List.setIfInBounds_toArray, List.set_cons_zero, List.set_cons_succ]) | (refine seq_take (v := ?_) (by rfl) ?_ ?_; rotate_left; (focus ((intro w hSw; (try dsimp only at hSw); go_simp; (try with_reducible rfl)); done)); try simp only [Act.put, List.setIfInBounds_toArray, List.set_cons_zero, List.set_cons_succ])) | (refine seq_do (fun K hK => ?_); go_simp; go_at_call 9; (with_reducible refine Calls.mono (HGD.out _) ?_); rintro e w' ⟨rfl, rfl⟩; dsimp only; refine hK.out _ _ (by assumption) (fun _ => ?_); clear hK K))
  refine seq_done ?_
  clear hHeld
  generalize ((w.alloc (.cells #[.int .i64 x0, .int .i64 x1, .int .i64 x2, .int .i64 x3, .int .u16 x4, .int .u16 x5, .int .i64 x6, .int .i64 x7, .int .i64 x8, .int .i64 x9, .int .i64 x10, .int .i64 x11, .int .i64 x12, .int .i64 x13] 41)).alloc (.cells #[.int .i64 0, .int .i64 0, .int .i64 0] 58)).drew = w2 at HP HR HZ HB HSZ ⊢
  have hz := HSZ.out
  go_upto_region 3 with fail
  go_cut [8] (fun e9 wx => ∃ b, e9 = .pointer (some ⟨b, 0, none⟩) ∧ Blk wx b 58 #[.int .i64 loc, .int .i64 o, .int .i64 h1] ∧ Rd wx r me ⟨st, ss, true, sd, sv, sr⟩ ∧ Blk wx (w.heap.size + 1) 58 #[.int .i64 0, .int .i64 0, .int .i64 0] ∧ Below w.heap.size w wx ∧ w.heap.size + 2 ≤ b)
  case first =>
    have HP3 := Lib.hid HP.out.drew
    have HR3 := Lib.hid HR.out.drew
    have HZ3 := Lib.hid HZ.out.drew
    have HB3 := Lib.hid (below_drew HB.out)
    clear hz
    refine wp_region_tr (.st true 0 (.st true 1 (.st true 2 (.st true 3 (.st true 4 (.st true 5 (.st true 6 (.st true 7 (.st true 9 (.st true 10 (.st true 11 (.two 8 13 (.st true 12 (.st false 13 (.st false 14 .done))) (.st false 8 (.st true 12 (.st false 14 .done))))))))))))))) (fun w' => w'.cell? ⟨w.heap.size, 9, none⟩ = some (.int .i64 x9) ∧ w'.cell? ⟨w.heap.size, 10, none⟩ = some (.int .i64 x10) ∧ w'.cell? ⟨w.heap.size, 11, none⟩ = some (.int .i64 x11) ∧ w'.cell? ⟨w.heap.size, 6, none⟩ = some (.int .i64 x6)) (by kernel_rfl) (by kernel_rfl) ⟨(HR3.out).cell 9, (HR3.out).cell 10, (HR3.out).cell 11, (HR3.out).cell 6⟩ (fun hHeld => ?_)
    simp only [Tr.res, List.getElem?_toArray, List.getElem?_cons_zero, List.getElem?_cons_succ]
    repeat (first | (refine tr_skip (by rfl) ?_; try simp only [Act.put, List.setIfInBounds_toArray, List.set_cons_zero, List.set_cons_succ]) | (refine tr_not (by rfl) (by assumption) ?_; try simp only [Act.put, List.setIfInBounds_toArray, List.set_cons_zero, List.set_cons_succ]) | (refine tr_take (v := ?_) (by rfl) ?_ ?_; rotate_left; (focus ((intro w hSw; (try dsimp only at hSw); go_simp; (try with_reducible rfl)); done)); try simp only [Act.put, List.setIfInBounds_toArray, List.set_cons_zero, List.set_cons_succ]))
    refine tr_two ?_ ?_
    · refine tr_do (fun K hK => ?_)
      go_simp
      go_at_call 13
      (with_reducible refine Calls.mono (HO.out _) ?_)
      rintro e w5 ⟨rfl, hb⟩
      have HP5 := Lib.hid (HP3.out.keeps hb)
      have HR5 := Lib.hid (HR3.out.keeps hb)
      have HZ5 := Lib.hid (HZ3.out.keeps hb)
      have HB5 := Lib.hid (HB3.out.trans (hb.mono HB3.out.size))
      have HS5 := Lib.hid (show w.heap.size + 2 ≤ w5.heap.size by have := hb.size; rw [size_drew, HSZ.out] at this; exact this)
      dsimp only
      refine hK.out _ _ ⟨(HR5.out).cell 9, (HR5.out).cell 10, (HR5.out).cell 11, (HR5.out).cell 6⟩ (fun hHeld => ?_)
      clear hK K hb
      repeat (first | (refine tr_skip (by rfl) ?_; try simp only [Act.put, List.setIfInBounds_toArray, List.set_cons_zero, List.set_cons_succ]) | (refine tr_not (by rfl) (by assumption) ?_; try simp only [Act.put, List.setIfInBounds_toArray, List.set_cons_zero, List.set_cons_succ]) | (refine tr_take (v := ?_) (by rfl) ?_ ?_; rotate_left; (focus ((intro w hSw; (try dsimp only at hSw); go_simp; (try with_reducible rfl)); done)); try simp only [Act.put, List.setIfInBounds_toArray, List.set_cons_zero, List.set_cons_succ]))
      refine tr_do (fun K hK => ?_)
      go_simp
      refine hK.out _ _ ⟨(HR5.out.alloc _).cell 9, (HR5.out.alloc _).cell 10, (HR5.out.alloc _).cell 11, (HR5.out.alloc _).cell 6⟩ (fun hHeld => ?_)
      clear hK K
      refine tr_do (fun K hK => ?_)
      go_simp
      refine hK.out _ _ ⟨(HR5.out.alloc _).cell 9, (HR5.out.alloc _).cell 10, (HR5.out.alloc _).cell 11, (HR5.out.alloc _).cell 6⟩ (fun hHeld => ?_)
      clear hK K
      refine tr_done ?_
      clear hHeld
      go_wp2
      go_meet
      exact ⟨_, rfl, Blk.new _ _ _, HP5.out.alloc _, HZ5.out.alloc _, HB5.out.alloc HB5.out.size _, HS5.out⟩
    · refine tr_do (fun K hK => ?_)
      go_simp
      refine hK.out _ _ ⟨(HR3.out.alloc _).cell 9, (HR3.out.alloc _).cell 10, (HR3.out.alloc _).cell 11, (HR3.out.alloc _).cell 6⟩ (fun hHeld => ?_)
      clear hK K
      refine tr_do (fun K hK => ?_)
      go_simp
      go_at_call 13
      (with_reducible refine Calls.mono (HO.out _) ?_)
      rintro e w5 ⟨rfl, hb⟩
      have HP5 := Lib.hid ((HP3.out.alloc _).keeps hb)
      have HR5 := Lib.hid ((HR3.out.alloc _).keeps hb)
      have HZ5 := Lib.hid ((HZ3.out.alloc _).keeps hb)
      have HN5 := Lib.hid ((Blk.new w2 58 #[.int .i64 0, .int .i64 0, .int .i64 0]).drew.keeps hb)
      have HB5 := Lib.hid ((HB3.out.alloc HB3.out.size _).trans (hb.mono (HB3.out.alloc HB3.out.size _).size))
      dsimp only
      refine hK.out _ _ ⟨(HR5.out).cell 9, (HR5.out).cell 10, (HR5.out).cell 11, (HR5.out).cell 6⟩ (fun hHeld => ?_)
      clear hK K hb
      repeat (first | (refine tr_skip (by rfl) ?_; try simp only [Act.put, List.setIfInBounds_toArray, List.set_cons_zero, List.set_cons_succ]) | (refine tr_not (by rfl) (by assumption) ?_; try simp only [Act.put, List.setIfInBounds_toArray, List.set_cons_zero, List.set_cons_succ]) | (refine tr_take (v := ?_) (by rfl) ?_ ?_; rotate_left; (focus ((intro w hSw; (try dsimp only at hSw); go_simp; (try with_reducible rfl)); done)); try simp only [Act.put, List.setIfInBounds_toArray, List.set_cons_zero, List.set_cons_succ]))
      have hy := cells3 HN5.out
      obtain ⟨y0, y1, y2, y3, y4, y5⟩ := hy
      refine tr_do (fun K hK => ?_)
      go_simp
      have hz9 := HSZ.out
      have hR : Blk (((w5.setCell ⟨w2.heap.size, 0, none⟩ (.int .i64 loc)).setCell ⟨w2.heap.size, 1, none⟩ (.int .i64 o)).setCell ⟨w2.heap.size, 2, none⟩ (.int .i64 h1)) w.heap.size 41 #[.int .i64 x0, .int .i64 x1, .int .i64 x2, .int .i64 x3, .int .u16 x4, .int .u16 x5, .int .i64 x6, .int .i64 x7, .int .i64 x8, .int .i64 x9, .int .i64 x10, .int .i64 x11, .int .i64 x12, .int .i64 x13] := by
        have k := HR5.out
        ((repeat (first | (with_reducible assumption) | (with_reducible apply Blk.drew) | (with_reducible apply set_at2) | ((with_reducible apply set_far); (focus omega)) | (with_reducible apply Blk.alloc))); all_goals rfl)
      have hP : Rd (((w5.setCell ⟨w2.heap.size, 0, none⟩ (.int .i64 loc)).setCell ⟨w2.heap.size, 1, none⟩ (.int .i64 o)).setCell ⟨w2.heap.size, 2, none⟩ (.int .i64 h1)) r me ⟨st, ss, true, sd, sv, sr⟩ := by
        have k := HP5.out
        ((repeat (first | (with_reducible assumption) | (with_reducible apply Blk.drew) | (with_reducible apply set_at2) | ((with_reducible apply set_far); (focus omega)) | (with_reducible apply Blk.alloc))); all_goals rfl)
      have hZ : Blk (((w5.setCell ⟨w2.heap.size, 0, none⟩ (.int .i64 loc)).setCell ⟨w2.heap.size, 1, none⟩ (.int .i64 o)).setCell ⟨w2.heap.size, 2, none⟩ (.int .i64 h1)) (w.heap.size + 1) 58 #[.int .i64 0, .int .i64 0, .int .i64 0] := by
        have k := HZ5.out
        ((repeat (first | (with_reducible assumption) | (with_reducible apply Blk.drew) | (with_reducible apply set_at2) | ((with_reducible apply set_far); (focus omega)) | (with_reducible apply Blk.alloc))); all_goals rfl)
      have hN : Blk (((w5.setCell ⟨w2.heap.size, 0, none⟩ (.int .i64 loc)).setCell ⟨w2.heap.size, 1, none⟩ (.int .i64 o)).setCell ⟨w2.heap.size, 2, none⟩ (.int .i64 h1)) w2.heap.size 58 #[.int .i64 loc, .int .i64 o, .int .i64 h1] := by
        have k := HN5.out
        ((repeat (first | (with_reducible assumption) | (with_reducible apply Blk.drew) | (with_reducible apply set_at2) | ((with_reducible apply set_far); (focus omega)) | (with_reducible apply Blk.alloc))); all_goals rfl)
      have hB : Below w.heap.size w (((w5.setCell ⟨w2.heap.size, 0, none⟩ (.int .i64 loc)).setCell ⟨w2.heap.size, 1, none⟩ (.int .i64 o)).setCell ⟨w2.heap.size, 2, none⟩ (.int .i64 h1)) := by
        have k := HB5.out
        (repeat (first | (with_reducible assumption) | (with_reducible apply below_drew) | ((with_reducible apply below_set); (focus omega)) | ((with_reducible apply below_at); (focus ((try simp only [size_set, size_drew, World.size_alloc]); omega)))))
      have HR7 := Lib.hid hR
      have HP7 := Lib.hid hP
      have HZ7 := Lib.hid hZ
      have HN7 := Lib.hid hN
      have HB7 := Lib.hid hB
      clear hR hP hZ hN hB hz9
      refine hK.out _ _ ⟨(HR7.out).cell 9, (HR7.out).cell 10, (HR7.out).cell 11, (HR7.out).cell 6⟩ (fun hHeld => ?_)
      clear hK K
      refine tr_done ?_
      clear hHeld
      go_wp2
      go_meet
      exact ⟨_, rfl, HN7.out, HP7.out, HZ7.out, HB7.out, by have := HSZ.out; omega⟩
  case rest =>
    obtain ⟨b, rfl, hxb, hp, hzz, hB, hbl⟩ := hcut
    have HP := Lib.hid hp
    have HZ := Lib.hid hzz
    have HX := Lib.hid hxb
    have HB := Lib.hid hB
    have hx := cells3 hxb
    obtain ⟨x0', x1', x2', x3', x4', x5'⟩ := hx
    clear hp hzz hxb hB hz
    have n1 : ¬ r = b := by omega
    have n2 : ¬ b = r := by omega
    have n3 : ¬ r = w.heap.size + 1 := by omega
    have n4 : ¬ w.heap.size + 1 = r := by omega
    have n5 : ¬ b = w.heap.size + 1 := by omega
    have n6 : ¬ w.heap.size + 1 = b := by omega
    go_wp2_with (go_at_call 31; (with_reducible refine Calls.mono (HE.out _) ?_); rintro e w7 ⟨rfl, hb⟩; clear x0' x1' x2' x3' x4' x5'; have HP7 := Lib.hid (HP.out.keeps hb); have HZ7 := Lib.hid (HZ.out.keeps hb); have HX7 := Lib.hid (HX.out.keeps hb); have HB7 := Lib.hid (HB.out.trans (hb.mono HB.out.size)); have hy := cells3 HZ7.out; obtain ⟨z0, z1, z2, z3, z4, z5⟩ := hy; have hx := cells3 HX7.out; obtain ⟨x0', x1', x2', x3', x4', x5'⟩ := hx; have hq := cells7 HP7.out; obtain ⟨⟨p0, p1, p2, p3, p4, p5, p6⟩, f0, f1, f2, f3, f4, f5, f6⟩ := hq; clear hb)
    have k1 := HZ7.out
    have k2 := HP7.out
    have k3 := Kp.of_below (S := fun k => k = r) HB7.out
    refine ret_rhear _ _ _ (w.heap.size + 1) 58 loc o h1 true rfl rfl rfl ?_ ⟨by rw [HOO.out, HH1.out], ?_, ?_⟩
    · ((repeat (first | (with_reducible assumption) | (with_reducible apply Blk.drew) | (with_reducible apply set_at2) | ((with_reducible apply set_far); (focus omega)) | (with_reducible apply Blk.alloc))); all_goals rfl)
    · ((repeat (first | (with_reducible assumption) | (with_reducible apply Blk.drew) | (with_reducible apply set_at2) | ((with_reducible apply set_far); (focus omega)) | (with_reducible apply Blk.alloc))); all_goals rfl)
    · (repeat (first | (with_reducible assumption) | (with_reducible apply Kp.drew) | ((with_reducible apply kp_set); (focus (first | exact .inl rfl | (right; (try simp only [size_set, size_drew, World.size_alloc]); omega)))) | (with_reducible apply Kp.alloc) | (with_reducible exact Kp.refl _ _)))
theorem rbeat_1 (p : Nat) (me t ss sd sv sr : Int) (w : World) (h : Rd w p me ⟨t, ss, false, sd, sv, sr⟩) (h0 : 0 ≤ sr) (h3 : sr ≤ 3) :
    Calls Try.prog 25 #[.pointer (some ⟨p, 0, none⟩)] w fun e w' => e = .returned (.bool false) ∧ Rd w' p me ⟨t, ss, false, sd, sv, max (sr - 1) 0⟩ ∧ Kp (fun k => k = p) w w' := by
  have hx := cells7 h
  obtain ⟨⟨c0, c1, c2, c3, c4, c5, c6⟩, f0, f1, f2, f3, f4, f5, f6⟩ := hx
  have H := Lib.hid h
  clear h
  rcases (by omega : sr = 0 ∨ sr = 1 ∨ sr = 2 ∨ sr = 3) with rfl | rfl | rfl | rfl
  all_goals
    go_enter Try.func25, Try.ntmps25
    go_wp2
    go_ret
    have k := H.out
    refine ⟨rfl, ?_, ?_⟩
    · ((repeat (first | (with_reducible assumption) | (with_reducible apply Blk.drew) | (with_reducible apply set_at2) | ((with_reducible apply set_far); (focus omega)) | (with_reducible apply Blk.alloc))); all_goals rfl)
    · (repeat (first | (with_reducible assumption) | (with_reducible apply Kp.drew) | ((with_reducible apply kp_set); (focus (first | exact .inl rfl | (right; (try simp only [size_set, size_drew, World.size_alloc]); omega)))) | (with_reducible apply Kp.alloc) | (with_reducible exact Kp.refl _ _)))
theorem rbeat_2 (p : Nat) (me t ss sv sr : Int) (w : World) (h : Rd w p me ⟨t, ss, true, 0, sv, sr⟩) :
    Calls Try.prog 25 #[.pointer (some ⟨p, 0, none⟩)] w fun e w' => e = .returned (.bool false) ∧ Rd w' p me ⟨t, ss, true, 1, sv, sr⟩ ∧ Kp (fun k => k = p) w w' := by
  have hx := cells7 h
  obtain ⟨⟨c0, c1, c2, c3, c4, c5, c6⟩, f0, f1, f2, f3, f4, f5, f6⟩ := hx
  have H := Lib.hid h
  clear h
  go_enter Try.func25, Try.ntmps25
  go_wp2
  go_ret
  have k := H.out
  refine ⟨rfl, ?_, ?_⟩
  · ((repeat (first | (with_reducible assumption) | (with_reducible apply Blk.drew) | (with_reducible apply set_at2) | ((with_reducible apply set_far); (focus omega)) | (with_reducible apply Blk.alloc))); all_goals rfl)
  · (repeat (first | (with_reducible assumption) | (with_reducible apply Kp.drew) | ((with_reducible apply kp_set); (focus (first | exact .inl rfl | (right; (try simp only [size_set, size_drew, World.size_alloc]); omega)))) | (with_reducible apply Kp.alloc) | (with_reducible exact Kp.refl _ _)))
theorem rbeat_3 (p : Nat) (me t ss sr : Int) (w : World) (h : Rd w p me ⟨t, ss, true, 1, 0, sr⟩) :
    Calls Try.prog 25 #[.pointer (some ⟨p, 0, none⟩)] w fun e w' => e = .returned (.bool false) ∧ Rd w' p me ⟨t, ss, false, 2, 1, 1⟩ ∧ Kp (fun k => k = p) w w' := by
  have hx := cells7 h
  obtain ⟨⟨c0, c1, c2, c3, c4, c5, c6⟩, f0, f1, f2, f3, f4, f5, f6⟩ := hx
  have H := Lib.hid h
  clear h
  go_enter Try.func25, Try.ntmps25
  go_wp2
  go_ret
  have k := H.out
  refine ⟨rfl, ?_, ?_⟩
  · ((repeat (first | (with_reducible assumption) | (with_reducible apply Blk.drew) | (with_reducible apply set_at2) | ((with_reducible apply set_far); (focus omega)) | (with_reducible apply Blk.alloc))); all_goals rfl)
  · (repeat (first | (with_reducible assumption) | (with_reducible apply Kp.drew) | ((with_reducible apply kp_set); (focus (first | exact .inl rfl | (right; (try simp only [size_set, size_drew, World.size_alloc]); omega)))) | (with_reducible apply Kp.alloc) | (with_reducible exact Kp.refl _ _)))
theorem rbeat_4 (p : Nat) (me t ss sr : Int) (w : World) (h : Rd w p me ⟨t, ss, true, 1, 1, sr⟩) :
    Calls Try.prog 25 #[.pointer (some ⟨p, 0, none⟩)] w fun e w' => e = .returned (.bool false) ∧ Rd w' p me ⟨t, ss, false, 2, 2, 3⟩ ∧ Kp (fun k => k = p) w w' := by
  have hx := cells7 h
  obtain ⟨⟨c0, c1, c2, c3, c4, c5, c6⟩, f0, f1, f2, f3, f4, f5, f6⟩ := hx
  have H := Lib.hid h
  clear h
  go_enter Try.func25, Try.ntmps25
  go_wp2
  go_ret
  have k := H.out
  refine ⟨rfl, ?_, ?_⟩
  · ((repeat (first | (with_reducible assumption) | (with_reducible apply Blk.drew) | (with_reducible apply set_at2) | ((with_reducible apply set_far); (focus omega)) | (with_reducible apply Blk.alloc))); all_goals rfl)
  · (repeat (first | (with_reducible assumption) | (with_reducible apply Kp.drew) | ((with_reducible apply kp_set); (focus (first | exact .inl rfl | (right; (try simp only [size_set, size_drew, World.size_alloc]); omega)))) | (with_reducible apply Kp.alloc) | (with_reducible exact Kp.refl _ _)))
theorem rbeat_5 (p : Nat) (me t ss sr : Int) (w : World) (h : Rd w p me ⟨t, ss, true, 1, 2, sr⟩) :
    Calls Try.prog 25 #[.pointer (some ⟨p, 0, none⟩)] w fun e w' => e = .returned (.bool true) ∧ Rd w' p me ⟨t, ss, false, 2, 0, 0⟩ ∧ Kp (fun k => k = p) w w' := by
  have hx := cells7 h
  obtain ⟨⟨c0, c1, c2, c3, c4, c5, c6⟩, f0, f1, f2, f3, f4, f5, f6⟩ := hx
  have H := Lib.hid h
  clear h
  go_enter Try.func25, Try.ntmps25
  go_wp2
  go_ret
  have k := H.out
  refine ⟨rfl, ?_, ?_⟩
  · ((repeat (first | (with_reducible assumption) | (with_reducible apply Blk.drew) | (with_reducible apply set_at2) | ((with_reducible apply set_far); (focus omega)) | (with_reducible apply Blk.alloc))); all_goals rfl)
  · (repeat (first | (with_reducible assumption) | (with_reducible apply Kp.drew) | ((with_reducible apply kp_set); (focus (first | exact .inl rfl | (right; (try simp only [size_set, size_drew, World.size_alloc]); omega)))) | (with_reducible apply Kp.alloc) | (with_reducible exact Kp.refl _ _)))
theorem rbeat_ok (p : Nat) (me : Int) (s : St) (w : World) (h : Rd w p me s) (hk : StOk s) :
    Calls Try.prog 25 #[.pointer (some ⟨p, 0, none⟩)] w fun e w' => e = .returned (.bool (beat s).1) ∧ Rd w' p me (beat s).2 ∧ Kp (fun k => k = p) w w' := by
  unfold beat
  obtain ⟨h1, h2, h3⟩ := hk
  obtain ⟨t, ss, sw, sd, sv, sr⟩ := s
  simp only at h1 h2 h3 ⊢
  cases sw with
  | false =>
    rw [if_pos rfl]
    exact rbeat_1 p me t ss sd sv sr w h h3.1 h3.2
  | true =>
    rw [if_neg (by simp)]
    rcases h1 rfl with rfl | rfl
    · rw [if_pos (by omega)]
      exact rbeat_2 p me t ss sv sr w h
    · rw [if_neg (by omega)]
      rcases h2 with rfl | rfl | rfl
      · rw [if_pos (by omega), if_pos rfl]
        exact rbeat_3 p me t ss sr w h
      · rw [if_pos (by omega), if_neg (by omega)]
        exact rbeat_4 p me t ss sr w h
      · rw [if_neg (by omega)]
        exact rbeat_5 p me t ss sr w h
end Go.Proofs.Ythnnejflgbminab.Pr
