/- The walks of Hear and Beat. -/
import Derived.Test.YthnnejflgbminabPr
import Derived.Test.YthnnejflgbminabSq2
import Derived.Deep.DeepCutAuto
namespace Go.Proofs.Ythnnejflgbminab.Pr
open Go.RowKit Go.Proofs.Ythnnejflgbminab.Bk Go.Proofs.Ythnnejflgbminab.Rw Go.Proofs.Ythnnejflgbminab.Ow Go.Proofs.Ythnnejflgbminab.Kp Go.Proofs.Ythnnejflgbminab.Sq Go.Proofs.Ythnnejflgbminab.Ck Go.Proofs.Ythnnejflgbminab.Tm Go.Proofs.Ythnnejflgbminab.Frm Go.Proofs.Ythnnejflgbminab.Sq2

theorem egood_yes (l o h : Int) (w : World) (h1 : 0 ≤ l) (h2 : l ≤ 1125899906842624) (h3 : -1125899906842624 ≤ o) (h4 : o ≤ 1125899906842624) (h5 : 1 ≤ h) (h6 : h ≤ 63) :
    Calls Try.prog 29 #[.agg #[.int .i64 l, .int .i64 o, .int .i64 h]] w fun e w' => e = .returned (.bool true) ∧ Below w.heap.size w w' := by
  have HB := Lib.hid ((Below.refl _ w).alloc (Nat.le_refl _) (.cells #[.int .i64 l, .int .i64 o, .int .i64 h] 43))
  go_enter Try.func29, Try.ntmps29
  go_wp2
  go_ret
  exact ⟨by first | rfl | (simp; omega), HB.out⟩
theorem egood_no (l o h : Int) (w : World) (h1 : 0 ≤ l) (h2 : l ≤ 1125899906842624) (h3 : -1125899906842624 ≤ o) (h4 : o ≤ 1125899906842624) (h5 : ¬ (1 ≤ h ∧ h ≤ 63)) :
    Calls Try.prog 29 #[.agg #[.int .i64 l, .int .i64 o, .int .i64 h]] w fun e w' => e = .returned (.bool false) ∧ Below w.heap.size w w' := by
  have HB := Lib.hid ((Below.refl _ w).alloc (Nat.le_refl _) (.cells #[.int .i64 l, .int .i64 o, .int .i64 h] 43))
  by_cases h6 : 1 ≤ h
  · have h7 : 63 < h := by omega
    clear h5
    go_enter Try.func29, Try.ntmps29
    go_wp2
    go_ret
    exact ⟨by first | rfl | (simp; omega), HB.out⟩
  · clear h5
    go_enter Try.func29, Try.ntmps29
    go_wp2
    go_ret
    exact ⟨by first | rfl | (simp; omega), HB.out⟩
theorem ret_hear (Q : Ending → World → Prop) (a : Act) (W : World) (g : Nat) (t : TypeId) (x y z : Int) (ok : Bool) (h2 : a.tmps.getD 6 undef = .pointer (some ⟨g, 0, none⟩)) (h3 : a.tmps.getD 7 undef = .bool ok) (hd : a.defers = [])
    (hb : Blk W g t #[.int .i64 x, .int .i64 y, .int .i64 z]) (hq : Q (.returned (.tuple #[.agg #[.int .i64 x, .int .i64 y, .int .i64 z], .bool ok])) W) : bodyPost Try.prog Try.f17 Q .ret a W := by
  have q0 : W.cell? ⟨g, 0, none⟩ = some (.int .i64 x) := hb.cell 0
  have q1 : W.cell? ⟨g, 1, none⟩ = some (.int .i64 y) := hb.cell 1
  have q2 : W.cell? ⟨g, 2, none⟩ = some (.int .i64 z) := hb.cell 2
  obtain ⟨tmps, defers⟩ := a
  simp only at h2 h3 hd
  subst hd
  rw [Array.getD_eq_getD_getElem?] at h2 h3
  refine bodyPost_ret (v := .tuple #[.agg #[.int .i64 x, .int .i64 y, .int .i64 z], .bool ok]) ?_ rfl hq
  simp [results, Try.results17, go_sem, h2, h3, q0, q1, q2]
theorem hear_no1 (p : Nat) (me st ss : Int) (sd sv sr : Int) (rf rt rs rg rb rr ru rh loc : Int) (w : World) (h : Pd w p me ⟨st, ss, false, sd, sv, sr⟩)  :
    Calls Try.prog 17 #[.pointer (some ⟨p, 0, none⟩), .agg #[.int .i64 rf, .int .i64 rt, .int .i64 rs, .int .i64 rg, .int .i64 rb, .int .i64 rr, .int .u16 ru, .int .i64 rh], .int .i64 loc] w fun e w' => e = .returned (.tuple #[.agg #[.int .i64 0, .int .i64 0, .int .i64 0], .bool false]) ∧ Below w.heap.size w w' := by
  have hbs : p < w.heap.size := h.lt
  have HP := Lib.hid ((h.alloc (.cells #[.int .i64 rf, .int .i64 rt, .int .i64 rs, .int .i64 rg, .int .i64 rb, .int .i64 rr, .int .u16 ru, .int .i64 rh] 47)).alloc (.cells #[.int .i64 0, .int .i64 0, .int .i64 0] 43)).drew
  have HR := Lib.hid ((Blk.new w 47 #[.int .i64 rf, .int .i64 rt, .int .i64 rs, .int .i64 rg, .int .i64 rb, .int .i64 rr, .int .u16 ru, .int .i64 rh]).alloc (.cells #[.int .i64 0, .int .i64 0, .int .i64 0] 43)).drew
  have HZ := Lib.hid (show Blk ((w.alloc (.cells #[.int .i64 rf, .int .i64 rt, .int .i64 rs, .int .i64 rg, .int .i64 rb, .int .i64 rr, .int .u16 ru, .int .i64 rh] 47)).alloc (.cells #[.int .i64 0, .int .i64 0, .int .i64 0] 43)).drew (w.heap.size + 1) 43 #[.int .i64 0, .int .i64 0, .int .i64 0] from (new_at (by simp)).drew)
  have HB := Lib.hid (show Below w.heap.size w ((w.alloc (.cells #[.int .i64 rf, .int .i64 rt, .int .i64 rs, .int .i64 rg, .int .i64 rb, .int .i64 rr, .int .u16 ru, .int .i64 rh] 47)).alloc (.cells #[.int .i64 0, .int .i64 0, .int .i64 0] 43)).drew from below_drew (((Below.refl _ w).alloc (Nat.le_refl _) _).alloc (by simp) _))
  have hsz : ((w.alloc (.cells #[.int .i64 rf, .int .i64 rt, .int .i64 rs, .int .i64 rg, .int .i64 rb, .int .i64 rr, .int .u16 ru, .int .i64 rh] 47)).alloc (.cells #[.int .i64 0, .int .i64 0, .int .i64 0] 43)).drew.heap.size = w.heap.size + 2 := by simp
  have HSZ := Lib.hid hsz
  clear h hsz
  go_enter Try.func17, Try.ntmps17
  go_wp2
  refine wp_region_seq [(0, true), (1, true), (2, true), (3, true), (4, true), (5, true), (6, true), (7, true), (8, true), (9, true), (10, true), (11, true), (12, true), (13, true), (14, true), (15, true), (16, true), (17, true), (18, true), (19, true), (20, true), (21, true), (22, true), (23, true), (24, true), (25, true), (26, true), (27, true), (28, true), (29, true), (30, true), (31, true), (32, true), (33, true), (34, true), (35, true)] (fun w' => w'.cell? ⟨p, 0, none⟩ = some (.int .i64 me) ∧ w'.cell? ⟨p, 1, none⟩ = some (.int .i64 st) ∧ w'.cell? ⟨p, 2, none⟩ = some (.int .i64 ss) ∧ w'.cell? ⟨p, 3, none⟩ = some (.bool false) ∧ w'.cell? ⟨w.heap.size, 0, none⟩ = some (.int .i64 rf) ∧ w'.cell? ⟨w.heap.size, 1, none⟩ = some (.int .i64 rt) ∧ w'.cell? ⟨w.heap.size, 2, none⟩ = some (.int .i64 rs)) (by kernel_rfl) (by kernel_rfl) ⟨HP.out.cell 0, HP.out.cell 1, HP.out.cell 2, HP.out.cell 3, HR.out.cell 0, HR.out.cell 1, HR.out.cell 2⟩ (fun hHeld => ?_)
  simp only [List.map_cons, List.map_nil, List.getElem?_toArray, List.getElem?_cons_zero, List.getElem?_cons_succ]
  repeat (first | (refine seq_skip (by rfl) ?_; try simp only [Act.put, List.setIfInBounds_toArray, List.set_cons_zero, List.set_cons_succ]) | (refine seq_not (by rfl) (by assumption) ?_; try simp only [Act.put, List.setIfInBounds_toArray, List.set_cons_zero, List.set_cons_succ]) | (refine seq_take (v := ?_) (by rfl) ?_ ?_; rotate_left; (focus ((intro w hSw; (try dsimp only at hSw); go_simp; (try with_reducible rfl)); done)); try simp only [Act.put, List.setIfInBounds_toArray, List.set_cons_zero, List.set_cons_succ]))
  refine seq_done ?_
  clear hHeld
  generalize ((w.alloc (.cells #[.int .i64 rf, .int .i64 rt, .int .i64 rs, .int .i64 rg, .int .i64 rb, .int .i64 rr, .int .u16 ru, .int .i64 rh] 47)).alloc (.cells #[.int .i64 0, .int .i64 0, .int .i64 0] 43)).drew = w2 at HP HR HZ HB HSZ ⊢
  have hz := HSZ.out
  have hy := cells3 HZ.out
  obtain ⟨z0, z1, z2, z3, z4, z5⟩ := hy
  clear hz
  go_wp2
  have h1 := HZ.out
  have h2 := HB.out
  refine ret_hear _ _ _ (w.heap.size + 1) 43 0 0 0 false rfl rfl rfl ?_ ⟨rfl, ?_⟩
  · ((repeat (first | (with_reducible assumption) | (with_reducible apply Blk.drew) | (with_reducible apply set_at) | ((with_reducible apply set_far); (focus omega)) | (with_reducible apply Blk.alloc))); all_goals rfl)
  · (repeat (first | (with_reducible assumption) | (with_reducible apply below_drew) | ((with_reducible apply below_set); (focus omega)) | ((with_reducible apply below_at); (focus ((try simp only [size_set, size_drew, World.size_alloc]); omega)))))
theorem hear_no2 (p : Nat) (me st ss : Int) (sd sv sr : Int) (rf rt rs rg rb rr ru rh loc : Int) (w : World) (h : Pd w p me ⟨st, ss, true, sd, sv, sr⟩)  (c1 : (rt != me) = true) :
    Calls Try.prog 17 #[.pointer (some ⟨p, 0, none⟩), .agg #[.int .i64 rf, .int .i64 rt, .int .i64 rs, .int .i64 rg, .int .i64 rb, .int .i64 rr, .int .u16 ru, .int .i64 rh], .int .i64 loc] w fun e w' => e = .returned (.tuple #[.agg #[.int .i64 0, .int .i64 0, .int .i64 0], .bool false]) ∧ Below w.heap.size w w' := by
  have hbs : p < w.heap.size := h.lt
  have HP := Lib.hid ((h.alloc (.cells #[.int .i64 rf, .int .i64 rt, .int .i64 rs, .int .i64 rg, .int .i64 rb, .int .i64 rr, .int .u16 ru, .int .i64 rh] 47)).alloc (.cells #[.int .i64 0, .int .i64 0, .int .i64 0] 43)).drew
  have HR := Lib.hid ((Blk.new w 47 #[.int .i64 rf, .int .i64 rt, .int .i64 rs, .int .i64 rg, .int .i64 rb, .int .i64 rr, .int .u16 ru, .int .i64 rh]).alloc (.cells #[.int .i64 0, .int .i64 0, .int .i64 0] 43)).drew
  have HZ := Lib.hid (show Blk ((w.alloc (.cells #[.int .i64 rf, .int .i64 rt, .int .i64 rs, .int .i64 rg, .int .i64 rb, .int .i64 rr, .int .u16 ru, .int .i64 rh] 47)).alloc (.cells #[.int .i64 0, .int .i64 0, .int .i64 0] 43)).drew (w.heap.size + 1) 43 #[.int .i64 0, .int .i64 0, .int .i64 0] from (new_at (by simp)).drew)
  have HB := Lib.hid (show Below w.heap.size w ((w.alloc (.cells #[.int .i64 rf, .int .i64 rt, .int .i64 rs, .int .i64 rg, .int .i64 rb, .int .i64 rr, .int .u16 ru, .int .i64 rh] 47)).alloc (.cells #[.int .i64 0, .int .i64 0, .int .i64 0] 43)).drew from below_drew (((Below.refl _ w).alloc (Nat.le_refl _) _).alloc (by simp) _))
  have hsz : ((w.alloc (.cells #[.int .i64 rf, .int .i64 rt, .int .i64 rs, .int .i64 rg, .int .i64 rb, .int .i64 rr, .int .u16 ru, .int .i64 rh] 47)).alloc (.cells #[.int .i64 0, .int .i64 0, .int .i64 0] 43)).drew.heap.size = w.heap.size + 2 := by simp
  have HSZ := Lib.hid hsz
  clear h hsz
  go_enter Try.func17, Try.ntmps17
  go_wp2
  refine wp_region_seq [(0, true), (1, true), (2, true), (3, true), (4, true), (5, true), (6, true), (7, true), (8, true), (9, true), (10, true), (11, true), (12, true), (13, true), (14, true), (15, true), (16, true), (17, true), (18, true), (19, true), (20, true), (21, true), (22, true), (23, true), (24, true), (25, true), (26, true), (27, true), (28, true), (29, true), (30, true), (31, true), (32, true), (33, true), (34, true), (35, true)] (fun w' => w'.cell? ⟨p, 0, none⟩ = some (.int .i64 me) ∧ w'.cell? ⟨p, 1, none⟩ = some (.int .i64 st) ∧ w'.cell? ⟨p, 2, none⟩ = some (.int .i64 ss) ∧ w'.cell? ⟨p, 3, none⟩ = some (.bool true) ∧ w'.cell? ⟨w.heap.size, 0, none⟩ = some (.int .i64 rf) ∧ w'.cell? ⟨w.heap.size, 1, none⟩ = some (.int .i64 rt) ∧ w'.cell? ⟨w.heap.size, 2, none⟩ = some (.int .i64 rs)) (by kernel_rfl) (by kernel_rfl) ⟨HP.out.cell 0, HP.out.cell 1, HP.out.cell 2, HP.out.cell 3, HR.out.cell 0, HR.out.cell 1, HR.out.cell 2⟩ (fun hHeld => ?_)
  simp only [List.map_cons, List.map_nil, List.getElem?_toArray, List.getElem?_cons_zero, List.getElem?_cons_succ]
  repeat (first | (refine seq_skip (by rfl) ?_; try simp only [Act.put, List.setIfInBounds_toArray, List.set_cons_zero, List.set_cons_succ]) | (refine seq_not (by rfl) (by assumption) ?_; try simp only [Act.put, List.setIfInBounds_toArray, List.set_cons_zero, List.set_cons_succ]) | (refine seq_take (v := ?_) (by rfl) ?_ ?_; rotate_left; (focus ((intro w hSw; (try dsimp only at hSw); go_simp; (try with_reducible rfl)); done)); try simp only [Act.put, List.setIfInBounds_toArray, List.set_cons_zero, List.set_cons_succ]))
  refine seq_done ?_
  clear hHeld
  generalize ((w.alloc (.cells #[.int .i64 rf, .int .i64 rt, .int .i64 rs, .int .i64 rg, .int .i64 rb, .int .i64 rr, .int .u16 ru, .int .i64 rh] 47)).alloc (.cells #[.int .i64 0, .int .i64 0, .int .i64 0] 43)).drew = w2 at HP HR HZ HB HSZ ⊢
  have hz := HSZ.out
  have hy := cells3 HZ.out
  obtain ⟨z0, z1, z2, z3, z4, z5⟩ := hy
  clear hz
  go_wp2
  have h1 := HZ.out
  have h2 := HB.out
  refine ret_hear _ _ _ (w.heap.size + 1) 43 0 0 0 false rfl rfl rfl ?_ ⟨rfl, ?_⟩
  · ((repeat (first | (with_reducible assumption) | (with_reducible apply Blk.drew) | (with_reducible apply set_at) | ((with_reducible apply set_far); (focus omega)) | (with_reducible apply Blk.alloc))); all_goals rfl)
  · (repeat (first | (with_reducible assumption) | (with_reducible apply below_drew) | ((with_reducible apply below_set); (focus omega)) | ((with_reducible apply below_at); (focus ((try simp only [size_set, size_drew, World.size_alloc]); omega)))))
theorem hear_no3 (p : Nat) (me st ss : Int) (sd sv sr : Int) (rf rt rs rg rb rr ru rh loc : Int) (w : World) (h : Pd w p me ⟨st, ss, true, sd, sv, sr⟩)  (c1 : (rt != me) = false) (c2 : (rf != st) = true) :
    Calls Try.prog 17 #[.pointer (some ⟨p, 0, none⟩), .agg #[.int .i64 rf, .int .i64 rt, .int .i64 rs, .int .i64 rg, .int .i64 rb, .int .i64 rr, .int .u16 ru, .int .i64 rh], .int .i64 loc] w fun e w' => e = .returned (.tuple #[.agg #[.int .i64 0, .int .i64 0, .int .i64 0], .bool false]) ∧ Below w.heap.size w w' := by
  have hbs : p < w.heap.size := h.lt
  have HP := Lib.hid ((h.alloc (.cells #[.int .i64 rf, .int .i64 rt, .int .i64 rs, .int .i64 rg, .int .i64 rb, .int .i64 rr, .int .u16 ru, .int .i64 rh] 47)).alloc (.cells #[.int .i64 0, .int .i64 0, .int .i64 0] 43)).drew
  have HR := Lib.hid ((Blk.new w 47 #[.int .i64 rf, .int .i64 rt, .int .i64 rs, .int .i64 rg, .int .i64 rb, .int .i64 rr, .int .u16 ru, .int .i64 rh]).alloc (.cells #[.int .i64 0, .int .i64 0, .int .i64 0] 43)).drew
  have HZ := Lib.hid (show Blk ((w.alloc (.cells #[.int .i64 rf, .int .i64 rt, .int .i64 rs, .int .i64 rg, .int .i64 rb, .int .i64 rr, .int .u16 ru, .int .i64 rh] 47)).alloc (.cells #[.int .i64 0, .int .i64 0, .int .i64 0] 43)).drew (w.heap.size + 1) 43 #[.int .i64 0, .int .i64 0, .int .i64 0] from (new_at (by simp)).drew)
  have HB := Lib.hid (show Below w.heap.size w ((w.alloc (.cells #[.int .i64 rf, .int .i64 rt, .int .i64 rs, .int .i64 rg, .int .i64 rb, .int .i64 rr, .int .u16 ru, .int .i64 rh] 47)).alloc (.cells #[.int .i64 0, .int .i64 0, .int .i64 0] 43)).drew from below_drew (((Below.refl _ w).alloc (Nat.le_refl _) _).alloc (by simp) _))
  have hsz : ((w.alloc (.cells #[.int .i64 rf, .int .i64 rt, .int .i64 rs, .int .i64 rg, .int .i64 rb, .int .i64 rr, .int .u16 ru, .int .i64 rh] 47)).alloc (.cells #[.int .i64 0, .int .i64 0, .int .i64 0] 43)).drew.heap.size = w.heap.size + 2 := by simp
  have HSZ := Lib.hid hsz
  clear h hsz
  go_enter Try.func17, Try.ntmps17
  go_wp2
  refine wp_region_seq [(0, true), (1, true), (2, true), (3, true), (4, true), (5, true), (6, true), (7, true), (8, true), (9, true), (10, true), (11, true), (12, true), (13, true), (14, true), (15, true), (16, true), (17, true), (18, true), (19, true), (20, true), (21, true), (22, true), (23, true), (24, true), (25, true), (26, true), (27, true), (28, true), (29, true), (30, true), (31, true), (32, true), (33, true), (34, true), (35, true)] (fun w' => w'.cell? ⟨p, 0, none⟩ = some (.int .i64 me) ∧ w'.cell? ⟨p, 1, none⟩ = some (.int .i64 st) ∧ w'.cell? ⟨p, 2, none⟩ = some (.int .i64 ss) ∧ w'.cell? ⟨p, 3, none⟩ = some (.bool true) ∧ w'.cell? ⟨w.heap.size, 0, none⟩ = some (.int .i64 rf) ∧ w'.cell? ⟨w.heap.size, 1, none⟩ = some (.int .i64 rt) ∧ w'.cell? ⟨w.heap.size, 2, none⟩ = some (.int .i64 rs)) (by kernel_rfl) (by kernel_rfl) ⟨HP.out.cell 0, HP.out.cell 1, HP.out.cell 2, HP.out.cell 3, HR.out.cell 0, HR.out.cell 1, HR.out.cell 2⟩ (fun hHeld => ?_)
  simp only [List.map_cons, List.map_nil, List.getElem?_toArray, List.getElem?_cons_zero, List.getElem?_cons_succ]
  repeat (first | (refine seq_skip (by rfl) ?_; try simp only [Act.put, List.setIfInBounds_toArray, List.set_cons_zero, List.set_cons_succ]) | (refine seq_not (by rfl) (by assumption) ?_; try simp only [Act.put, List.setIfInBounds_toArray, List.set_cons_zero, List.set_cons_succ]) | (refine seq_take (v := ?_) (by rfl) ?_ ?_; rotate_left; (focus ((intro w hSw; (try dsimp only at hSw); go_simp; (try with_reducible rfl)); done)); try simp only [Act.put, List.setIfInBounds_toArray, List.set_cons_zero, List.set_cons_succ]))
  refine seq_done ?_
  clear hHeld
  generalize ((w.alloc (.cells #[.int .i64 rf, .int .i64 rt, .int .i64 rs, .int .i64 rg, .int .i64 rb, .int .i64 rr, .int .u16 ru, .int .i64 rh] 47)).alloc (.cells #[.int .i64 0, .int .i64 0, .int .i64 0] 43)).drew = w2 at HP HR HZ HB HSZ ⊢
  have hz := HSZ.out
  have hy := cells3 HZ.out
  obtain ⟨z0, z1, z2, z3, z4, z5⟩ := hy
  clear hz
  go_wp2
  have h1 := HZ.out
  have h2 := HB.out
  refine ret_hear _ _ _ (w.heap.size + 1) 43 0 0 0 false rfl rfl rfl ?_ ⟨rfl, ?_⟩
  · ((repeat (first | (with_reducible assumption) | (with_reducible apply Blk.drew) | (with_reducible apply set_at) | ((with_reducible apply set_far); (focus omega)) | (with_reducible apply Blk.alloc))); all_goals rfl)
  · (repeat (first | (with_reducible assumption) | (with_reducible apply below_drew) | ((with_reducible apply below_set); (focus omega)) | ((with_reducible apply below_at); (focus ((try simp only [size_set, size_drew, World.size_alloc]); omega)))))
theorem hear_no4 (p : Nat) (me st ss : Int) (sd sv sr : Int) (rf rt rs rg rb rr ru rh loc : Int) (w : World) (h : Pd w p me ⟨st, ss, true, sd, sv, sr⟩)  (c1 : (rt != me) = false) (c2 : (rf != st) = false) (c3 : (rs != ss) = true) :
    Calls Try.prog 17 #[.pointer (some ⟨p, 0, none⟩), .agg #[.int .i64 rf, .int .i64 rt, .int .i64 rs, .int .i64 rg, .int .i64 rb, .int .i64 rr, .int .u16 ru, .int .i64 rh], .int .i64 loc] w fun e w' => e = .returned (.tuple #[.agg #[.int .i64 0, .int .i64 0, .int .i64 0], .bool false]) ∧ Below w.heap.size w w' := by
  have hbs : p < w.heap.size := h.lt
  have HP := Lib.hid ((h.alloc (.cells #[.int .i64 rf, .int .i64 rt, .int .i64 rs, .int .i64 rg, .int .i64 rb, .int .i64 rr, .int .u16 ru, .int .i64 rh] 47)).alloc (.cells #[.int .i64 0, .int .i64 0, .int .i64 0] 43)).drew
  have HR := Lib.hid ((Blk.new w 47 #[.int .i64 rf, .int .i64 rt, .int .i64 rs, .int .i64 rg, .int .i64 rb, .int .i64 rr, .int .u16 ru, .int .i64 rh]).alloc (.cells #[.int .i64 0, .int .i64 0, .int .i64 0] 43)).drew
  have HZ := Lib.hid (show Blk ((w.alloc (.cells #[.int .i64 rf, .int .i64 rt, .int .i64 rs, .int .i64 rg, .int .i64 rb, .int .i64 rr, .int .u16 ru, .int .i64 rh] 47)).alloc (.cells #[.int .i64 0, .int .i64 0, .int .i64 0] 43)).drew (w.heap.size + 1) 43 #[.int .i64 0, .int .i64 0, .int .i64 0] from (new_at (by simp)).drew)
  have HB := Lib.hid (show Below w.heap.size w ((w.alloc (.cells #[.int .i64 rf, .int .i64 rt, .int .i64 rs, .int .i64 rg, .int .i64 rb, .int .i64 rr, .int .u16 ru, .int .i64 rh] 47)).alloc (.cells #[.int .i64 0, .int .i64 0, .int .i64 0] 43)).drew from below_drew (((Below.refl _ w).alloc (Nat.le_refl _) _).alloc (by simp) _))
  have hsz : ((w.alloc (.cells #[.int .i64 rf, .int .i64 rt, .int .i64 rs, .int .i64 rg, .int .i64 rb, .int .i64 rr, .int .u16 ru, .int .i64 rh] 47)).alloc (.cells #[.int .i64 0, .int .i64 0, .int .i64 0] 43)).drew.heap.size = w.heap.size + 2 := by simp
  have HSZ := Lib.hid hsz
  clear h hsz
  go_enter Try.func17, Try.ntmps17
  go_wp2
  refine wp_region_seq [(0, true), (1, true), (2, true), (3, true), (4, true), (5, true), (6, true), (7, true), (8, true), (9, true), (10, true), (11, true), (12, true), (13, true), (14, true), (15, true), (16, true), (17, true), (18, true), (19, true), (20, true), (21, true), (22, true), (23, true), (24, true), (25, true), (26, true), (27, true), (28, true), (29, true), (30, true), (31, true), (32, true), (33, true), (34, true), (35, true)] (fun w' => w'.cell? ⟨p, 0, none⟩ = some (.int .i64 me) ∧ w'.cell? ⟨p, 1, none⟩ = some (.int .i64 st) ∧ w'.cell? ⟨p, 2, none⟩ = some (.int .i64 ss) ∧ w'.cell? ⟨p, 3, none⟩ = some (.bool true) ∧ w'.cell? ⟨w.heap.size, 0, none⟩ = some (.int .i64 rf) ∧ w'.cell? ⟨w.heap.size, 1, none⟩ = some (.int .i64 rt) ∧ w'.cell? ⟨w.heap.size, 2, none⟩ = some (.int .i64 rs)) (by kernel_rfl) (by kernel_rfl) ⟨HP.out.cell 0, HP.out.cell 1, HP.out.cell 2, HP.out.cell 3, HR.out.cell 0, HR.out.cell 1, HR.out.cell 2⟩ (fun hHeld => ?_)
  simp only [List.map_cons, List.map_nil, List.getElem?_toArray, List.getElem?_cons_zero, List.getElem?_cons_succ]
  repeat (first | (refine seq_skip (by rfl) ?_; try simp only [Act.put, List.setIfInBounds_toArray, List.set_cons_zero, List.set_cons_succ]) | (refine seq_not (by rfl) (by assumption) ?_; try simp only [Act.put, List.setIfInBounds_toArray, List.set_cons_zero, List.set_cons_succ]) | (refine seq_take (v := ?_) (by rfl) ?_ ?_; rotate_left; (focus ((intro w hSw; (try dsimp only at hSw); go_simp; (try with_reducible rfl)); done)); try simp only [Act.put, List.setIfInBounds_toArray, List.set_cons_zero, List.set_cons_succ]))
  refine seq_done ?_
  clear hHeld
  generalize ((w.alloc (.cells #[.int .i64 rf, .int .i64 rt, .int .i64 rs, .int .i64 rg, .int .i64 rb, .int .i64 rr, .int .u16 ru, .int .i64 rh] 47)).alloc (.cells #[.int .i64 0, .int .i64 0, .int .i64 0] 43)).drew = w2 at HP HR HZ HB HSZ ⊢
  have hz := HSZ.out
  have hy := cells3 HZ.out
  obtain ⟨z0, z1, z2, z3, z4, z5⟩ := hy
  clear hz
  go_wp2
  have h1 := HZ.out
  have h2 := HB.out
  refine ret_hear _ _ _ (w.heap.size + 1) 43 0 0 0 false rfl rfl rfl ?_ ⟨rfl, ?_⟩
  · ((repeat (first | (with_reducible assumption) | (with_reducible apply Blk.drew) | (with_reducible apply set_at) | ((with_reducible apply set_far); (focus omega)) | (with_reducible apply Blk.alloc))); all_goals rfl)
  · (repeat (first | (with_reducible assumption) | (with_reducible apply below_drew) | ((with_reducible apply below_set); (focus omega)) | ((with_reducible apply below_at); (focus ((try simp only [size_set, size_drew, World.size_alloc]); omega)))))
set_option maxHeartbeats 800000 in
theorem hear_no5 (p : Nat) (me st ss : Int) (sd sv sr : Int) (rf rt rs rg rb rr ru rh loc : Int) (w : World) (h : Pd w p me ⟨st, ss, true, sd, sv, sr⟩) (c1 : (rt != me) = false) (c2 : (rf != st) = false) (c3 : (rs != ss) = false) (hg : tg rs rg rb loc = false) :
    Calls Try.prog 17 #[.pointer (some ⟨p, 0, none⟩), .agg #[.int .i64 rf, .int .i64 rt, .int .i64 rs, .int .i64 rg, .int .i64 rb, .int .i64 rr, .int .u16 ru, .int .i64 rh], .int .i64 loc] w fun e w' => e = .returned (.tuple #[.agg #[.int .i64 0, .int .i64 0, .int .i64 0], .bool false]) ∧ Below w.heap.size w w' := by
  obtain ⟨h1, hh1⟩ : ∃ h1, IntKind.i64.wrap (rh + 1) = h1 := ⟨_, rfl⟩
  obtain ⟨o, ho⟩ : ∃ o : Int, o = 0 := ⟨_, rfl⟩
  have HO := Lib.hid (fun w => ho ▸ offset_bad rs rg rb loc w hg)
  have hG := fun w => good_ok rs rg rb loc w
  rw [hg] at hG
  have HG := Lib.hid hG
  clear hG hg ho
  have hbs : p < w.heap.size := h.lt
  have HP := Lib.hid ((h.alloc (.cells #[.int .i64 rf, .int .i64 rt, .int .i64 rs, .int .i64 rg, .int .i64 rb, .int .i64 rr, .int .u16 ru, .int .i64 rh] 47)).alloc (.cells #[.int .i64 0, .int .i64 0, .int .i64 0] 43)).drew
  have HR := Lib.hid ((Blk.new w 47 #[.int .i64 rf, .int .i64 rt, .int .i64 rs, .int .i64 rg, .int .i64 rb, .int .i64 rr, .int .u16 ru, .int .i64 rh]).alloc (.cells #[.int .i64 0, .int .i64 0, .int .i64 0] 43)).drew
  have HZ := Lib.hid (show Blk ((w.alloc (.cells #[.int .i64 rf, .int .i64 rt, .int .i64 rs, .int .i64 rg, .int .i64 rb, .int .i64 rr, .int .u16 ru, .int .i64 rh] 47)).alloc (.cells #[.int .i64 0, .int .i64 0, .int .i64 0] 43)).drew (w.heap.size + 1) 43 #[.int .i64 0, .int .i64 0, .int .i64 0] from (new_at (by simp)).drew)
  have HB := Lib.hid (show Below w.heap.size w ((w.alloc (.cells #[.int .i64 rf, .int .i64 rt, .int .i64 rs, .int .i64 rg, .int .i64 rb, .int .i64 rr, .int .u16 ru, .int .i64 rh] 47)).alloc (.cells #[.int .i64 0, .int .i64 0, .int .i64 0] 43)).drew from below_drew (((Below.refl _ w).alloc (Nat.le_refl _) _).alloc (by simp) _))
  have hsz : ((w.alloc (.cells #[.int .i64 rf, .int .i64 rt, .int .i64 rs, .int .i64 rg, .int .i64 rb, .int .i64 rr, .int .u16 ru, .int .i64 rh] 47)).alloc (.cells #[.int .i64 0, .int .i64 0, .int .i64 0] 43)).drew.heap.size = w.heap.size + 2 := by simp
  have HSZ := Lib.hid hsz
  clear h hsz
  go_enter Try.func17, Try.ntmps17
  go_wp2
  refine wp_region_seq [(0, true), (1, true), (2, true), (3, true), (4, true), (5, true), (6, true), (7, true), (8, true), (9, true), (10, true), (11, true), (12, true), (13, true), (14, true), (15, true), (16, true), (17, true), (18, true), (19, true), (20, true), (21, true), (22, true), (23, true), (24, true), (25, true), (26, true), (27, true), (28, true), (29, true), (30, true), (31, true), (32, true), (33, true), (34, true), (35, true)] (fun w' => w'.cell? ⟨p, 0, none⟩ = some (.int .i64 me) ∧ w'.cell? ⟨p, 1, none⟩ = some (.int .i64 st) ∧ w'.cell? ⟨p, 2, none⟩ = some (.int .i64 ss) ∧ w'.cell? ⟨p, 3, none⟩ = some (.bool true) ∧ w'.cell? ⟨w.heap.size, 0, none⟩ = some (.int .i64 rf) ∧ w'.cell? ⟨w.heap.size, 1, none⟩ = some (.int .i64 rt) ∧ w'.cell? ⟨w.heap.size, 2, none⟩ = some (.int .i64 rs)) (by kernel_rfl) (by kernel_rfl) ⟨HP.out.cell 0, HP.out.cell 1, HP.out.cell 2, HP.out.cell 3, HR.out.cell 0, HR.out.cell 1, HR.out.cell 2⟩ (fun hHeld => ?_)
  simp only [List.map_cons, List.map_nil, List.getElem?_toArray, List.getElem?_cons_zero, List.getElem?_cons_succ]
  repeat (first | (refine seq_skip (by rfl) ?_; try simp only [Act.put, List.setIfInBounds_toArray, List.set_cons_zero, List.set_cons_succ]) | (refine seq_not (by rfl) (by assumption) ?_; try simp only [Act.put, List.setIfInBounds_toArray, List.set_cons_zero, List.set_cons_succ]) | (refine seq_take (v := ?_) (by rfl) ?_ ?_; rotate_left; (focus ((intro w hSw; (try dsimp only at hSw); go_simp; (try with_reducible rfl)); done)); try simp only [Act.put, List.setIfInBounds_toArray, List.set_cons_zero, List.set_cons_succ]))
  refine seq_done ?_
  clear hHeld
  generalize ((w.alloc (.cells #[.int .i64 rf, .int .i64 rt, .int .i64 rs, .int .i64 rg, .int .i64 rb, .int .i64 rr, .int .u16 ru, .int .i64 rh] 47)).alloc (.cells #[.int .i64 0, .int .i64 0, .int .i64 0] 43)).drew = w2 at HP HR HZ HB HSZ ⊢
  have hz := HSZ.out
  have r2 : w2.cell? ⟨w.heap.size, 2, none⟩ = some (.int .i64 rs) := HR.out.cell 2
  have r3 : w2.cell? ⟨w.heap.size, 3, none⟩ = some (.int .i64 rg) := HR.out.cell 3
  have r4 : w2.cell? ⟨w.heap.size, 4, none⟩ = some (.int .i64 rb) := HR.out.cell 4
  go_upto_region 4 with fail
  clear r2 r3 r4
  go_cut [9] (fun e9 wx => ∃ b, e9 = .pointer (some ⟨b, 0, none⟩) ∧ Blk wx b 43 #[.int .i64 loc, .int .i64 o, .int .i64 h1] ∧ Pd wx p me ⟨st, ss, true, sd, sv, sr⟩ ∧ Blk wx (w.heap.size + 2) 23 #[.int .i64 rs, .int .i64 rg, .int .i64 rb, .int .i64 loc] ∧ Blk wx (w.heap.size + 1) 43 #[.int .i64 0, .int .i64 0, .int .i64 0] ∧ Below w.heap.size w wx ∧ w.heap.size + 3 ≤ b)
  case first =>
    have HP3 := Lib.hid (HP.out.alloc (.cells #[.int .i64 rs, .int .i64 rg, .int .i64 rb, .int .i64 loc] 23)).drew
    have HR3 := Lib.hid (HR.out.alloc (.cells #[.int .i64 rs, .int .i64 rg, .int .i64 rb, .int .i64 loc] 23)).drew
    have HZ3 := Lib.hid (HZ.out.alloc (.cells #[.int .i64 rs, .int .i64 rg, .int .i64 rb, .int .i64 loc] 23)).drew
    have HT3 := Lib.hid (Blk.new w2 23 #[.int .i64 rs, .int .i64 rg, .int .i64 rb, .int .i64 loc]).drew
    rw [HSZ.out] at HT3
    have HB3 := Lib.hid (below_drew (HB.out.alloc (by rw [HSZ.out]; omega) (.cells #[.int .i64 rs, .int .i64 rg, .int .i64 rb, .int .i64 loc] 23)))
    have HS3 := Lib.hid (show (w2.alloc (.cells #[.int .i64 rs, .int .i64 rg, .int .i64 rb, .int .i64 loc] 23)).drew.heap.size = w.heap.size + 3 by rw [size_drew, World.size_alloc, HSZ.out])
    clear hz
    refine wp_region_tr (.st true 0 (.st true 1 (.st true 3 (.st true 4 (.st true 5 (.two 2 7 (.st true 6 (.st false 7 (.st false 8 .done))) (.st false 2 (.st true 6 (.st false 8 .done))))))))) (fun w' => w'.cell? ⟨w.heap.size + 2, 0, none⟩ = some (.int .i64 rs) ∧ w'.cell? ⟨w.heap.size + 2, 1, none⟩ = some (.int .i64 rg) ∧ w'.cell? ⟨w.heap.size + 2, 2, none⟩ = some (.int .i64 rb) ∧ w'.cell? ⟨w.heap.size + 2, 3, none⟩ = some (.int .i64 loc) ∧ w'.cell? ⟨w.heap.size, 7, none⟩ = some (.int .i64 rh)) (by kernel_rfl) (by kernel_rfl) ⟨HT3.out.cell 0, HT3.out.cell 1, HT3.out.cell 2, HT3.out.cell 3, HR3.out.cell 7⟩ (fun hHeld => ?_)
    simp only [Tr.res, List.getElem?_toArray, List.getElem?_cons_zero, List.getElem?_cons_succ]
    repeat (first | (refine tr_skip (by rfl) ?_; try simp only [Act.put, List.setIfInBounds_toArray, List.set_cons_zero, List.set_cons_succ]) | (refine tr_not (by rfl) (by assumption) ?_; try simp only [Act.put, List.setIfInBounds_toArray, List.set_cons_zero, List.set_cons_succ]) | (refine tr_take (v := ?_) (by rfl) ?_ ?_; rotate_left; (focus ((intro w hSw; (try dsimp only at hSw); go_simp; (try with_reducible rfl)); done)); try simp only [Act.put, List.setIfInBounds_toArray, List.set_cons_zero, List.set_cons_succ]))
    refine tr_two ?_ ?_
    · refine tr_do (fun K hK => ?_)
      go_simp
      go_at_call 11
      (with_reducible refine Calls.mono (HO.out _) ?_)
      rintro e w5 ⟨rfl, hb⟩
      have HP5 := Lib.hid (HP3.out.keeps hb)
      have HR5 := Lib.hid (HR3.out.keeps hb)
      have HZ5 := Lib.hid (HZ3.out.keeps hb)
      have HT5 := Lib.hid (HT3.out.keeps hb)
      have HB5 := Lib.hid (HB3.out.trans (hb.mono HB3.out.size))
      have HS5 := Lib.hid (show w.heap.size + 3 ≤ w5.heap.size by have := hb.size; rw [HS3.out] at this; exact this)
      dsimp only
      refine hK.out _ _ ⟨HT5.out.cell 0, HT5.out.cell 1, HT5.out.cell 2, HT5.out.cell 3, HR5.out.cell 7⟩ (fun hHeld => ?_)
      clear hK K hb
      repeat (first | (refine tr_skip (by rfl) ?_; try simp only [Act.put, List.setIfInBounds_toArray, List.set_cons_zero, List.set_cons_succ]) | (refine tr_not (by rfl) (by assumption) ?_; try simp only [Act.put, List.setIfInBounds_toArray, List.set_cons_zero, List.set_cons_succ]) | (refine tr_take (v := ?_) (by rfl) ?_ ?_; rotate_left; (focus ((intro w hSw; (try dsimp only at hSw); go_simp; (try with_reducible rfl)); done)); try simp only [Act.put, List.setIfInBounds_toArray, List.set_cons_zero, List.set_cons_succ]))
      refine tr_do (fun K hK => ?_)
      go_simp
      refine hK.out _ _ ⟨(HT5.out.alloc _).cell 0, (HT5.out.alloc _).cell 1, (HT5.out.alloc _).cell 2, (HT5.out.alloc _).cell 3, (HR5.out.alloc _).cell 7⟩ (fun hHeld => ?_)
      clear hK K
      refine tr_do (fun K hK => ?_)
      go_simp
      refine hK.out _ _ ⟨(HT5.out.alloc _).cell 0, (HT5.out.alloc _).cell 1, (HT5.out.alloc _).cell 2, (HT5.out.alloc _).cell 3, (HR5.out.alloc _).cell 7⟩ (fun hHeld => ?_)
      clear hK K
      refine tr_done ?_
      clear hHeld
      go_wp2
      go_meet
      exact ⟨_, rfl, Blk.new _ _ _, HP5.out.alloc _, HT5.out.alloc _, HZ5.out.alloc _, HB5.out.alloc HB5.out.size _, HS5.out⟩
    · refine tr_do (fun K hK => ?_)
      go_simp
      refine hK.out _ _ ⟨(HT3.out.alloc _).cell 0, (HT3.out.alloc _).cell 1, (HT3.out.alloc _).cell 2, (HT3.out.alloc _).cell 3, (HR3.out.alloc _).cell 7⟩ (fun hHeld => ?_)
      clear hK K
      refine tr_do (fun K hK => ?_)
      go_simp
      go_at_call 11
      (with_reducible refine Calls.mono (HO.out _) ?_)
      rintro e w5 ⟨rfl, hb⟩
      have HP5 := Lib.hid ((HP3.out.alloc _).keeps hb)
      have HR5 := Lib.hid ((HR3.out.alloc _).keeps hb)
      have HZ5 := Lib.hid ((HZ3.out.alloc _).keeps hb)
      have HT5 := Lib.hid ((HT3.out.alloc _).keeps hb)
      have HN5 := Lib.hid ((Blk.new (w2.alloc (.cells #[.int .i64 rs, .int .i64 rg, .int .i64 rb, .int .i64 loc] 23)) 43 #[.int .i64 0, .int .i64 0, .int .i64 0]).drew.keeps hb)
      have HB5 := Lib.hid ((HB3.out.alloc HB3.out.size _).trans (hb.mono (HB3.out.alloc HB3.out.size _).size))
      dsimp only
      refine hK.out _ _ ⟨HT5.out.cell 0, HT5.out.cell 1, HT5.out.cell 2, HT5.out.cell 3, HR5.out.cell 7⟩ (fun hHeld => ?_)
      clear hK K hb
      repeat (first | (refine tr_skip (by rfl) ?_; try simp only [Act.put, List.setIfInBounds_toArray, List.set_cons_zero, List.set_cons_succ]) | (refine tr_not (by rfl) (by assumption) ?_; try simp only [Act.put, List.setIfInBounds_toArray, List.set_cons_zero, List.set_cons_succ]) | (refine tr_take (v := ?_) (by rfl) ?_ ?_; rotate_left; (focus ((intro w hSw; (try dsimp only at hSw); go_simp; (try with_reducible rfl)); done)); try simp only [Act.put, List.setIfInBounds_toArray, List.set_cons_zero, List.set_cons_succ]))
      have hnn := HN5.out
      rw [World.size_alloc] at hnn
      have hy := cells3 hnn
      obtain ⟨y0, y1, y2, y3, y4, y5⟩ := hy
      have HN6 := Lib.hid hnn
      clear hnn
      refine tr_do (fun K hK => ?_)
      go_simp
      have hz9 := HSZ.out
      have hT : Blk (((w5.setCell ⟨w2.heap.size + 1, 0, none⟩ (.int .i64 loc)).setCell ⟨w2.heap.size + 1, 1, none⟩ (.int .i64 o)).setCell ⟨w2.heap.size + 1, 2, none⟩ (.int .i64 h1)) (w.heap.size + 2) 23 #[.int .i64 rs, .int .i64 rg, .int .i64 rb, .int .i64 loc] := by
        have k := HT5.out
        ((repeat (first | (with_reducible assumption) | (with_reducible apply Blk.drew) | (with_reducible apply set_at) | ((with_reducible apply set_far); (focus omega)) | (with_reducible apply Blk.alloc))); all_goals rfl)
      have hR : Blk (((w5.setCell ⟨w2.heap.size + 1, 0, none⟩ (.int .i64 loc)).setCell ⟨w2.heap.size + 1, 1, none⟩ (.int .i64 o)).setCell ⟨w2.heap.size + 1, 2, none⟩ (.int .i64 h1)) w.heap.size 47 #[.int .i64 rf, .int .i64 rt, .int .i64 rs, .int .i64 rg, .int .i64 rb, .int .i64 rr, .int .u16 ru, .int .i64 rh] := by
        have k := HR5.out
        ((repeat (first | (with_reducible assumption) | (with_reducible apply Blk.drew) | (with_reducible apply set_at) | ((with_reducible apply set_far); (focus omega)) | (with_reducible apply Blk.alloc))); all_goals rfl)
      have hP : Pd (((w5.setCell ⟨w2.heap.size + 1, 0, none⟩ (.int .i64 loc)).setCell ⟨w2.heap.size + 1, 1, none⟩ (.int .i64 o)).setCell ⟨w2.heap.size + 1, 2, none⟩ (.int .i64 h1)) p me ⟨st, ss, true, sd, sv, sr⟩ := by
        have k := HP5.out
        ((repeat (first | (with_reducible assumption) | (with_reducible apply Blk.drew) | (with_reducible apply set_at) | ((with_reducible apply set_far); (focus omega)) | (with_reducible apply Blk.alloc))); all_goals rfl)
      have hZ : Blk (((w5.setCell ⟨w2.heap.size + 1, 0, none⟩ (.int .i64 loc)).setCell ⟨w2.heap.size + 1, 1, none⟩ (.int .i64 o)).setCell ⟨w2.heap.size + 1, 2, none⟩ (.int .i64 h1)) (w.heap.size + 1) 43 #[.int .i64 0, .int .i64 0, .int .i64 0] := by
        have k := HZ5.out
        ((repeat (first | (with_reducible assumption) | (with_reducible apply Blk.drew) | (with_reducible apply set_at) | ((with_reducible apply set_far); (focus omega)) | (with_reducible apply Blk.alloc))); all_goals rfl)
      have hN : Blk (((w5.setCell ⟨w2.heap.size + 1, 0, none⟩ (.int .i64 loc)).setCell ⟨w2.heap.size + 1, 1, none⟩ (.int .i64 o)).setCell ⟨w2.heap.size + 1, 2, none⟩ (.int .i64 h1)) (w2.heap.size + 1) 43 #[.int .i64 loc, .int .i64 o, .int .i64 h1] := by
        have k := HN6.out
        ((repeat (first | (with_reducible assumption) | (with_reducible apply Blk.drew) | (with_reducible apply set_at) | ((with_reducible apply set_far); (focus omega)) | (with_reducible apply Blk.alloc))); all_goals rfl)
      have hB : Below w.heap.size w (((w5.setCell ⟨w2.heap.size + 1, 0, none⟩ (.int .i64 loc)).setCell ⟨w2.heap.size + 1, 1, none⟩ (.int .i64 o)).setCell ⟨w2.heap.size + 1, 2, none⟩ (.int .i64 h1)) := by
        have k := HB5.out
        (repeat (first | (with_reducible assumption) | (with_reducible apply below_drew) | ((with_reducible apply below_set); (focus omega)) | ((with_reducible apply below_at); (focus ((try simp only [size_set, size_drew, World.size_alloc]); omega)))))
      have HT7 := Lib.hid hT
      have HR7 := Lib.hid hR
      have HP7 := Lib.hid hP
      have HZ7 := Lib.hid hZ
      have HN7 := Lib.hid hN
      have HB7 := Lib.hid hB
      clear hT hR hP hZ hN hB hz9
      refine hK.out _ _ ⟨HT7.out.cell 0, HT7.out.cell 1, HT7.out.cell 2, HT7.out.cell 3, HR7.out.cell 7⟩ (fun hHeld => ?_)
      clear hK K
      refine tr_done ?_
      clear hHeld
      go_wp2
      go_meet
      exact ⟨_, rfl, HN7.out, HP7.out, HT7.out, HZ7.out, HB7.out, by have := HSZ.out; omega⟩
  case rest =>
    obtain ⟨b, rfl, hxb, hp, ht, hzz, hB, hbl⟩ := hcut
    have HP := Lib.hid hp
    have HT := Lib.hid ht
    have HZ := Lib.hid hzz
    have HX := Lib.hid hxb
    have HB := Lib.hid hB
    have htc := cells4 ht
    obtain ⟨t0, t1, t2, t3⟩ := htc
    clear hp ht hzz hxb hB hz
    go_wp2_with (go_at_call 10; (with_reducible refine Calls.mono (HG.out _) ?_); rintro e w6 ⟨rfl, hb⟩; have HP6 := Lib.hid (HP.out.keeps hb); have HZ6 := Lib.hid (HZ.out.keeps hb); have HB6 := Lib.hid (HB.out.trans (hb.mono HB.out.size)); have hy := cells3 HZ6.out; obtain ⟨z0, z1, z2, z3, z4, z5⟩ := hy; clear hb)
    have h1 := HZ6.out
    have h2 := HB6.out
    refine ret_hear _ _ _ (w.heap.size + 1) 43 0 0 0 false rfl rfl rfl ?_ ⟨rfl, ?_⟩
    · ((repeat (first | (with_reducible assumption) | (with_reducible apply Blk.drew) | (with_reducible apply set_at) | ((with_reducible apply set_far); (focus omega)) | (with_reducible apply Blk.alloc))); all_goals rfl)
    · (repeat (first | (with_reducible assumption) | (with_reducible apply below_drew) | ((with_reducible apply below_set); (focus omega)) | ((with_reducible apply below_at); (focus ((try simp only [size_set, size_drew, World.size_alloc]); omega)))))
set_option maxHeartbeats 800000 in
theorem hear_no6 (p : Nat) (me st ss : Int) (sd sv sr : Int) (rf rt rs rg rb rr ru rh loc : Int) (w : World) (h : Pd w p me ⟨st, ss, true, sd, sv, sr⟩) (c1 : (rt != me) = false) (c2 : (rf != st) = false) (c3 : (rs != ss) = false) (hg : tg rs rg rb loc = true) (hh : ¬ (0 ≤ rh ∧ rh ≤ 62)) (hr0 : -9223372036854775808 ≤ rh) (hr1 : rh ≤ 9223372036854775807) :
    Calls Try.prog 17 #[.pointer (some ⟨p, 0, none⟩), .agg #[.int .i64 rf, .int .i64 rt, .int .i64 rs, .int .i64 rg, .int .i64 rb, .int .i64 rr, .int .u16 ru, .int .i64 rh], .int .i64 loc] w fun e w' => e = .returned (.tuple #[.agg #[.int .i64 0, .int .i64 0, .int .i64 0], .bool false]) ∧ Below w.heap.size w w' := by
  obtain ⟨h1, hh1⟩ : ∃ h1, IntKind.i64.wrap (rh + 1) = h1 := ⟨_, rfl⟩
  have hh2 : ¬ (1 ≤ h1 ∧ h1 ≤ 63) := by
    rw [← hh1]
    have : IntKind.i64.wrap (rh + 1) = wrap64 (rh + 1) := IntWalk.i64_left _
    rw [this]
    unfold wrap64
    omega
  have hgg := tg_iff.1 hg
  obtain ⟨o, ho⟩ : ∃ o : Int, o = offs rs rg rb loc := ⟨_, rfl⟩
  have ho1 : -1125899906842624 ≤ o ∧ o ≤ 1125899906842624 := by rw [ho]; unfold offs; omega
  have HO := Lib.hid (fun w => ho ▸ offset_good rs rg rb loc w hg)
  have hG := fun w => good_ok rs rg rb loc w
  rw [hg] at hG
  have HG := Lib.hid hG
  have HE := Lib.hid (fun w => egood_no loc o h1 w (by omega) (by omega) ho1.1 ho1.2 hh2)
  clear hG hg ho hgg ho1 hh hh2 hr0 hr1
  have hbs : p < w.heap.size := h.lt
  have HP := Lib.hid ((h.alloc (.cells #[.int .i64 rf, .int .i64 rt, .int .i64 rs, .int .i64 rg, .int .i64 rb, .int .i64 rr, .int .u16 ru, .int .i64 rh] 47)).alloc (.cells #[.int .i64 0, .int .i64 0, .int .i64 0] 43)).drew
  have HR := Lib.hid ((Blk.new w 47 #[.int .i64 rf, .int .i64 rt, .int .i64 rs, .int .i64 rg, .int .i64 rb, .int .i64 rr, .int .u16 ru, .int .i64 rh]).alloc (.cells #[.int .i64 0, .int .i64 0, .int .i64 0] 43)).drew
  have HZ := Lib.hid (show Blk ((w.alloc (.cells #[.int .i64 rf, .int .i64 rt, .int .i64 rs, .int .i64 rg, .int .i64 rb, .int .i64 rr, .int .u16 ru, .int .i64 rh] 47)).alloc (.cells #[.int .i64 0, .int .i64 0, .int .i64 0] 43)).drew (w.heap.size + 1) 43 #[.int .i64 0, .int .i64 0, .int .i64 0] from (new_at (by simp)).drew)
  have HB := Lib.hid (show Below w.heap.size w ((w.alloc (.cells #[.int .i64 rf, .int .i64 rt, .int .i64 rs, .int .i64 rg, .int .i64 rb, .int .i64 rr, .int .u16 ru, .int .i64 rh] 47)).alloc (.cells #[.int .i64 0, .int .i64 0, .int .i64 0] 43)).drew from below_drew (((Below.refl _ w).alloc (Nat.le_refl _) _).alloc (by simp) _))
  have hsz : ((w.alloc (.cells #[.int .i64 rf, .int .i64 rt, .int .i64 rs, .int .i64 rg, .int .i64 rb, .int .i64 rr, .int .u16 ru, .int .i64 rh] 47)).alloc (.cells #[.int .i64 0, .int .i64 0, .int .i64 0] 43)).drew.heap.size = w.heap.size + 2 := by simp
  have HSZ := Lib.hid hsz
  clear h hsz
  go_enter Try.func17, Try.ntmps17
  go_wp2
  refine wp_region_seq [(0, true), (1, true), (2, true), (3, true), (4, true), (5, true), (6, true), (7, true), (8, true), (9, true), (10, true), (11, true), (12, true), (13, true), (14, true), (15, true), (16, true), (17, true), (18, true), (19, true), (20, true), (21, true), (22, true), (23, true), (24, true), (25, true), (26, true), (27, true), (28, true), (29, true), (30, true), (31, true), (32, true), (33, true), (34, true), (35, true)] (fun w' => w'.cell? ⟨p, 0, none⟩ = some (.int .i64 me) ∧ w'.cell? ⟨p, 1, none⟩ = some (.int .i64 st) ∧ w'.cell? ⟨p, 2, none⟩ = some (.int .i64 ss) ∧ w'.cell? ⟨p, 3, none⟩ = some (.bool true) ∧ w'.cell? ⟨w.heap.size, 0, none⟩ = some (.int .i64 rf) ∧ w'.cell? ⟨w.heap.size, 1, none⟩ = some (.int .i64 rt) ∧ w'.cell? ⟨w.heap.size, 2, none⟩ = some (.int .i64 rs)) (by kernel_rfl) (by kernel_rfl) ⟨HP.out.cell 0, HP.out.cell 1, HP.out.cell 2, HP.out.cell 3, HR.out.cell 0, HR.out.cell 1, HR.out.cell 2⟩ (fun hHeld => ?_)
  simp only [List.map_cons, List.map_nil, List.getElem?_toArray, List.getElem?_cons_zero, List.getElem?_cons_succ]
  repeat (first | (refine seq_skip (by rfl) ?_; try simp only [Act.put, List.setIfInBounds_toArray, List.set_cons_zero, List.set_cons_succ]) | (refine seq_not (by rfl) (by assumption) ?_; try simp only [Act.put, List.setIfInBounds_toArray, List.set_cons_zero, List.set_cons_succ]) | (refine seq_take (v := ?_) (by rfl) ?_ ?_; rotate_left; (focus ((intro w hSw; (try dsimp only at hSw); go_simp; (try with_reducible rfl)); done)); try simp only [Act.put, List.setIfInBounds_toArray, List.set_cons_zero, List.set_cons_succ]))
  refine seq_done ?_
  clear hHeld
  generalize ((w.alloc (.cells #[.int .i64 rf, .int .i64 rt, .int .i64 rs, .int .i64 rg, .int .i64 rb, .int .i64 rr, .int .u16 ru, .int .i64 rh] 47)).alloc (.cells #[.int .i64 0, .int .i64 0, .int .i64 0] 43)).drew = w2 at HP HR HZ HB HSZ ⊢
  have hz := HSZ.out
  have r2 : w2.cell? ⟨w.heap.size, 2, none⟩ = some (.int .i64 rs) := HR.out.cell 2
  have r3 : w2.cell? ⟨w.heap.size, 3, none⟩ = some (.int .i64 rg) := HR.out.cell 3
  have r4 : w2.cell? ⟨w.heap.size, 4, none⟩ = some (.int .i64 rb) := HR.out.cell 4
  go_upto_region 4 with fail
  clear r2 r3 r4
  go_cut [9] (fun e9 wx => ∃ b, e9 = .pointer (some ⟨b, 0, none⟩) ∧ Blk wx b 43 #[.int .i64 loc, .int .i64 o, .int .i64 h1] ∧ Pd wx p me ⟨st, ss, true, sd, sv, sr⟩ ∧ Blk wx (w.heap.size + 2) 23 #[.int .i64 rs, .int .i64 rg, .int .i64 rb, .int .i64 loc] ∧ Blk wx (w.heap.size + 1) 43 #[.int .i64 0, .int .i64 0, .int .i64 0] ∧ Below w.heap.size w wx ∧ w.heap.size + 3 ≤ b)
  case first =>
    have HP3 := Lib.hid (HP.out.alloc (.cells #[.int .i64 rs, .int .i64 rg, .int .i64 rb, .int .i64 loc] 23)).drew
    have HR3 := Lib.hid (HR.out.alloc (.cells #[.int .i64 rs, .int .i64 rg, .int .i64 rb, .int .i64 loc] 23)).drew
    have HZ3 := Lib.hid (HZ.out.alloc (.cells #[.int .i64 rs, .int .i64 rg, .int .i64 rb, .int .i64 loc] 23)).drew
    have HT3 := Lib.hid (Blk.new w2 23 #[.int .i64 rs, .int .i64 rg, .int .i64 rb, .int .i64 loc]).drew
    rw [HSZ.out] at HT3
    have HB3 := Lib.hid (below_drew (HB.out.alloc (by rw [HSZ.out]; omega) (.cells #[.int .i64 rs, .int .i64 rg, .int .i64 rb, .int .i64 loc] 23)))
    have HS3 := Lib.hid (show (w2.alloc (.cells #[.int .i64 rs, .int .i64 rg, .int .i64 rb, .int .i64 loc] 23)).drew.heap.size = w.heap.size + 3 by rw [size_drew, World.size_alloc, HSZ.out])
    clear hz
    refine wp_region_tr (.st true 0 (.st true 1 (.st true 3 (.st true 4 (.st true 5 (.two 2 7 (.st true 6 (.st false 7 (.st false 8 .done))) (.st false 2 (.st true 6 (.st false 8 .done))))))))) (fun w' => w'.cell? ⟨w.heap.size + 2, 0, none⟩ = some (.int .i64 rs) ∧ w'.cell? ⟨w.heap.size + 2, 1, none⟩ = some (.int .i64 rg) ∧ w'.cell? ⟨w.heap.size + 2, 2, none⟩ = some (.int .i64 rb) ∧ w'.cell? ⟨w.heap.size + 2, 3, none⟩ = some (.int .i64 loc) ∧ w'.cell? ⟨w.heap.size, 7, none⟩ = some (.int .i64 rh)) (by kernel_rfl) (by kernel_rfl) ⟨HT3.out.cell 0, HT3.out.cell 1, HT3.out.cell 2, HT3.out.cell 3, HR3.out.cell 7⟩ (fun hHeld => ?_)
    simp only [Tr.res, List.getElem?_toArray, List.getElem?_cons_zero, List.getElem?_cons_succ]
    repeat (first | (refine tr_skip (by rfl) ?_; try simp only [Act.put, List.setIfInBounds_toArray, List.set_cons_zero, List.set_cons_succ]) | (refine tr_not (by rfl) (by assumption) ?_; try simp only [Act.put, List.setIfInBounds_toArray, List.set_cons_zero, List.set_cons_succ]) | (refine tr_take (v := ?_) (by rfl) ?_ ?_; rotate_left; (focus ((intro w hSw; (try dsimp only at hSw); go_simp; (try with_reducible rfl)); done)); try simp only [Act.put, List.setIfInBounds_toArray, List.set_cons_zero, List.set_cons_succ]))
    refine tr_two ?_ ?_
    · refine tr_do (fun K hK => ?_)
      go_simp
      go_at_call 11
      (with_reducible refine Calls.mono (HO.out _) ?_)
      rintro e w5 ⟨rfl, hb⟩
      have HP5 := Lib.hid (HP3.out.keeps hb)
      have HR5 := Lib.hid (HR3.out.keeps hb)
      have HZ5 := Lib.hid (HZ3.out.keeps hb)
      have HT5 := Lib.hid (HT3.out.keeps hb)
      have HB5 := Lib.hid (HB3.out.trans (hb.mono HB3.out.size))
      have HS5 := Lib.hid (show w.heap.size + 3 ≤ w5.heap.size by have := hb.size; rw [HS3.out] at this; exact this)
      dsimp only
      refine hK.out _ _ ⟨HT5.out.cell 0, HT5.out.cell 1, HT5.out.cell 2, HT5.out.cell 3, HR5.out.cell 7⟩ (fun hHeld => ?_)
      clear hK K hb
      repeat (first | (refine tr_skip (by rfl) ?_; try simp only [Act.put, List.setIfInBounds_toArray, List.set_cons_zero, List.set_cons_succ]) | (refine tr_not (by rfl) (by assumption) ?_; try simp only [Act.put, List.setIfInBounds_toArray, List.set_cons_zero, List.set_cons_succ]) | (refine tr_take (v := ?_) (by rfl) ?_ ?_; rotate_left; (focus ((intro w hSw; (try dsimp only at hSw); go_simp; (try with_reducible rfl)); done)); try simp only [Act.put, List.setIfInBounds_toArray, List.set_cons_zero, List.set_cons_succ]))
      refine tr_do (fun K hK => ?_)
      go_simp
      refine hK.out _ _ ⟨(HT5.out.alloc _).cell 0, (HT5.out.alloc _).cell 1, (HT5.out.alloc _).cell 2, (HT5.out.alloc _).cell 3, (HR5.out.alloc _).cell 7⟩ (fun hHeld => ?_)
      clear hK K
      refine tr_do (fun K hK => ?_)
      go_simp
      refine hK.out _ _ ⟨(HT5.out.alloc _).cell 0, (HT5.out.alloc _).cell 1, (HT5.out.alloc _).cell 2, (HT5.out.alloc _).cell 3, (HR5.out.alloc _).cell 7⟩ (fun hHeld => ?_)
      clear hK K
      refine tr_done ?_
      clear hHeld
      go_wp2
      go_meet
      exact ⟨_, rfl, Blk.new _ _ _, HP5.out.alloc _, HT5.out.alloc _, HZ5.out.alloc _, HB5.out.alloc HB5.out.size _, HS5.out⟩
    · refine tr_do (fun K hK => ?_)
      go_simp
      refine hK.out _ _ ⟨(HT3.out.alloc _).cell 0, (HT3.out.alloc _).cell 1, (HT3.out.alloc _).cell 2, (HT3.out.alloc _).cell 3, (HR3.out.alloc _).cell 7⟩ (fun hHeld => ?_)
      clear hK K
      refine tr_do (fun K hK => ?_)
      go_simp
      go_at_call 11
      (with_reducible refine Calls.mono (HO.out _) ?_)
      rintro e w5 ⟨rfl, hb⟩
      have HP5 := Lib.hid ((HP3.out.alloc _).keeps hb)
      have HR5 := Lib.hid ((HR3.out.alloc _).keeps hb)
      have HZ5 := Lib.hid ((HZ3.out.alloc _).keeps hb)
      have HT5 := Lib.hid ((HT3.out.alloc _).keeps hb)
      have HN5 := Lib.hid ((Blk.new (w2.alloc (.cells #[.int .i64 rs, .int .i64 rg, .int .i64 rb, .int .i64 loc] 23)) 43 #[.int .i64 0, .int .i64 0, .int .i64 0]).drew.keeps hb)
      have HB5 := Lib.hid ((HB3.out.alloc HB3.out.size _).trans (hb.mono (HB3.out.alloc HB3.out.size _).size))
      dsimp only
      refine hK.out _ _ ⟨HT5.out.cell 0, HT5.out.cell 1, HT5.out.cell 2, HT5.out.cell 3, HR5.out.cell 7⟩ (fun hHeld => ?_)
      clear hK K hb
      repeat (first | (refine tr_skip (by rfl) ?_; try simp only [Act.put, List.setIfInBounds_toArray, List.set_cons_zero, List.set_cons_succ]) | (refine tr_not (by rfl) (by assumption) ?_; try simp only [Act.put, List.setIfInBounds_toArray, List.set_cons_zero, List.set_cons_succ]) | (refine tr_take (v := ?_) (by rfl) ?_ ?_; rotate_left; (focus ((intro w hSw; (try dsimp only at hSw); go_simp; (try with_reducible rfl)); done)); try simp only [Act.put, List.setIfInBounds_toArray, List.set_cons_zero, List.set_cons_succ]))
      have hnn := HN5.out
      rw [World.size_alloc] at hnn
      have hy := cells3 hnn
      obtain ⟨y0, y1, y2, y3, y4, y5⟩ := hy
      have HN6 := Lib.hid hnn
      clear hnn
      refine tr_do (fun K hK => ?_)
      go_simp
      have hz9 := HSZ.out
      have hT : Blk (((w5.setCell ⟨w2.heap.size + 1, 0, none⟩ (.int .i64 loc)).setCell ⟨w2.heap.size + 1, 1, none⟩ (.int .i64 o)).setCell ⟨w2.heap.size + 1, 2, none⟩ (.int .i64 h1)) (w.heap.size + 2) 23 #[.int .i64 rs, .int .i64 rg, .int .i64 rb, .int .i64 loc] := by
        have k := HT5.out
        ((repeat (first | (with_reducible assumption) | (with_reducible apply Blk.drew) | (with_reducible apply set_at) | ((with_reducible apply set_far); (focus omega)) | (with_reducible apply Blk.alloc))); all_goals rfl)
      have hR : Blk (((w5.setCell ⟨w2.heap.size + 1, 0, none⟩ (.int .i64 loc)).setCell ⟨w2.heap.size + 1, 1, none⟩ (.int .i64 o)).setCell ⟨w2.heap.size + 1, 2, none⟩ (.int .i64 h1)) w.heap.size 47 #[.int .i64 rf, .int .i64 rt, .int .i64 rs, .int .i64 rg, .int .i64 rb, .int .i64 rr, .int .u16 ru, .int .i64 rh] := by
        have k := HR5.out
        ((repeat (first | (with_reducible assumption) | (with_reducible apply Blk.drew) | (with_reducible apply set_at) | ((with_reducible apply set_far); (focus omega)) | (with_reducible apply Blk.alloc))); all_goals rfl)
      have hP : Pd (((w5.setCell ⟨w2.heap.size + 1, 0, none⟩ (.int .i64 loc)).setCell ⟨w2.heap.size + 1, 1, none⟩ (.int .i64 o)).setCell ⟨w2.heap.size + 1, 2, none⟩ (.int .i64 h1)) p me ⟨st, ss, true, sd, sv, sr⟩ := by
        have k := HP5.out
        ((repeat (first | (with_reducible assumption) | (with_reducible apply Blk.drew) | (with_reducible apply set_at) | ((with_reducible apply set_far); (focus omega)) | (with_reducible apply Blk.alloc))); all_goals rfl)
      have hZ : Blk (((w5.setCell ⟨w2.heap.size + 1, 0, none⟩ (.int .i64 loc)).setCell ⟨w2.heap.size + 1, 1, none⟩ (.int .i64 o)).setCell ⟨w2.heap.size + 1, 2, none⟩ (.int .i64 h1)) (w.heap.size + 1) 43 #[.int .i64 0, .int .i64 0, .int .i64 0] := by
        have k := HZ5.out
        ((repeat (first | (with_reducible assumption) | (with_reducible apply Blk.drew) | (with_reducible apply set_at) | ((with_reducible apply set_far); (focus omega)) | (with_reducible apply Blk.alloc))); all_goals rfl)
      have hN : Blk (((w5.setCell ⟨w2.heap.size + 1, 0, none⟩ (.int .i64 loc)).setCell ⟨w2.heap.size + 1, 1, none⟩ (.int .i64 o)).setCell ⟨w2.heap.size + 1, 2, none⟩ (.int .i64 h1)) (w2.heap.size + 1) 43 #[.int .i64 loc, .int .i64 o, .int .i64 h1] := by
        have k := HN6.out
        ((repeat (first | (with_reducible assumption) | (with_reducible apply Blk.drew) | (with_reducible apply set_at) | ((with_reducible apply set_far); (focus omega)) | (with_reducible apply Blk.alloc))); all_goals rfl)
      have hB : Below w.heap.size w (((w5.setCell ⟨w2.heap.size + 1, 0, none⟩ (.int .i64 loc)).setCell ⟨w2.heap.size + 1, 1, none⟩ (.int .i64 o)).setCell ⟨w2.heap.size + 1, 2, none⟩ (.int .i64 h1)) := by
        have k := HB5.out
        (repeat (first | (with_reducible assumption) | (with_reducible apply below_drew) | ((with_reducible apply below_set); (focus omega)) | ((with_reducible apply below_at); (focus ((try simp only [size_set, size_drew, World.size_alloc]); omega)))))
      have HT7 := Lib.hid hT
      have HR7 := Lib.hid hR
      have HP7 := Lib.hid hP
      have HZ7 := Lib.hid hZ
      have HN7 := Lib.hid hN
      have HB7 := Lib.hid hB
      clear hT hR hP hZ hN hB hz9
      refine hK.out _ _ ⟨HT7.out.cell 0, HT7.out.cell 1, HT7.out.cell 2, HT7.out.cell 3, HR7.out.cell 7⟩ (fun hHeld => ?_)
      clear hK K
      refine tr_done ?_
      clear hHeld
      go_wp2
      go_meet
      exact ⟨_, rfl, HN7.out, HP7.out, HT7.out, HZ7.out, HB7.out, by have := HSZ.out; omega⟩
  case rest =>
    obtain ⟨b, rfl, hxb, hp, ht, hzz, hB, hbl⟩ := hcut
    have HP := Lib.hid hp
    have HT := Lib.hid ht
    have HZ := Lib.hid hzz
    have HX := Lib.hid hxb
    have HB := Lib.hid hB
    have htc := cells4 ht
    obtain ⟨t0, t1, t2, t3⟩ := htc
    clear hp ht hzz hxb hB hz
    go_wp2_with (first
      | (go_at_call 10; (with_reducible refine Calls.mono (HG.out _) ?_); rintro e w6 ⟨rfl, hb⟩; have HP6 := Lib.hid (HP.out.keeps hb); have HZ6 := Lib.hid (HZ.out.keeps hb); have HX6 := Lib.hid (HX.out.keeps hb); have HB6 := Lib.hid (HB.out.trans (hb.mono HB.out.size)); have hx := cells3 HX6.out; obtain ⟨x0, x1, x2, x3, x4, x5⟩ := hx; clear hb)
      | (go_at_call 29; (with_reducible refine Calls.mono (HE.out _) ?_); rintro e w7 ⟨rfl, hb⟩; clear x0 x1 x2 x3 x4 x5; have HP7 := Lib.hid (HP6.out.keeps hb); have HZ7 := Lib.hid (HZ6.out.keeps hb); have HX7 := Lib.hid (HX6.out.keeps hb); have HB7 := Lib.hid (HB6.out.trans (hb.mono HB6.out.size)); have hy := cells3 HZ7.out; obtain ⟨z0, z1, z2, z3, z4, z5⟩ := hy; have hx := cells3 HX7.out; obtain ⟨x0, x1, x2, x3, x4, x5⟩ := hx; have hq := cells7 HP7.out; obtain ⟨⟨p0, p1, p2, p3, p4, p5, p6⟩, f0, f1, f2, f3, f4, f5, f6⟩ := hq; clear hb))
    have h1 := HZ7.out
    have h2 := HB7.out
    refine ret_hear _ _ _ (w.heap.size + 1) 43 0 0 0 false rfl rfl rfl ?_ ⟨rfl, ?_⟩
    · ((repeat (first | (with_reducible assumption) | (with_reducible apply Blk.drew) | (with_reducible apply set_at) | ((with_reducible apply set_far); (focus omega)) | (with_reducible apply Blk.alloc))); all_goals rfl)
    · (repeat (first | (with_reducible assumption) | (with_reducible apply below_drew) | ((with_reducible apply below_set); (focus omega)) | ((with_reducible apply below_at); (focus ((try simp only [size_set, size_drew, World.size_alloc]); omega)))))
set_option maxHeartbeats 800000 in
theorem hear_yes (p : Nat) (me st ss : Int) (sd sv sr : Int) (rf rt rs rg rb rr ru rh loc : Int) (w : World) (h : Pd w p me ⟨st, ss, true, sd, sv, sr⟩) (c1 : (rt != me) = false) (c2 : (rf != st) = false) (c3 : (rs != ss) = false) (hg : tg rs rg rb loc = true) (hh0 : 0 ≤ rh) (hh9 : rh ≤ 62) :
    Calls Try.prog 17 #[.pointer (some ⟨p, 0, none⟩), .agg #[.int .i64 rf, .int .i64 rt, .int .i64 rs, .int .i64 rg, .int .i64 rb, .int .i64 rr, .int .u16 ru, .int .i64 rh], .int .i64 loc] w fun e w' => e = .returned (.tuple #[.agg #[.int .i64 loc, .int .i64 (offs rs rg rb loc), .int .i64 (rh + 1)], .bool true]) ∧ Pd w' p me ⟨st, ss, false, sd, 0, sr⟩ ∧ Kp (fun k => k = p) w w' := by
  obtain ⟨h1, hh1⟩ : ∃ h1, IntKind.i64.wrap (rh + 1) = h1 := ⟨_, rfl⟩
  have hh2 : h1 = rh + 1 := by rw [← hh1]; exact IntWalk.i64_in _ (by omega)
  have hgg := tg_iff.1 hg
  obtain ⟨o, ho⟩ : ∃ o : Int, o = offs rs rg rb loc := ⟨_, rfl⟩
  have ho1 : -1125899906842624 ≤ o ∧ o ≤ 1125899906842624 := by rw [ho]; unfold offs; omega
  have HO := Lib.hid (fun w => ho ▸ offset_good rs rg rb loc w hg)
  have hG := fun w => good_ok rs rg rb loc w
  rw [hg] at hG
  have HG := Lib.hid hG
  have HE := Lib.hid (fun w => egood_yes loc o h1 w (by omega) (by omega) ho1.1 ho1.2 (by omega) (by omega))
  have HOO := Lib.hid ho
  have HH1 := Lib.hid hh2
  clear hG hg ho hgg ho1 hh2 hh0 hh9
  have hbs : p < w.heap.size := h.lt
  have HP := Lib.hid ((h.alloc (.cells #[.int .i64 rf, .int .i64 rt, .int .i64 rs, .int .i64 rg, .int .i64 rb, .int .i64 rr, .int .u16 ru, .int .i64 rh] 47)).alloc (.cells #[.int .i64 0, .int .i64 0, .int .i64 0] 43)).drew
  have HR := Lib.hid ((Blk.new w 47 #[.int .i64 rf, .int .i64 rt, .int .i64 rs, .int .i64 rg, .int .i64 rb, .int .i64 rr, .int .u16 ru, .int .i64 rh]).alloc (.cells #[.int .i64 0, .int .i64 0, .int .i64 0] 43)).drew
  have HZ := Lib.hid (show Blk ((w.alloc (.cells #[.int .i64 rf, .int .i64 rt, .int .i64 rs, .int .i64 rg, .int .i64 rb, .int .i64 rr, .int .u16 ru, .int .i64 rh] 47)).alloc (.cells #[.int .i64 0, .int .i64 0, .int .i64 0] 43)).drew (w.heap.size + 1) 43 #[.int .i64 0, .int .i64 0, .int .i64 0] from (new_at (by simp)).drew)
  have HB := Lib.hid (show Below w.heap.size w ((w.alloc (.cells #[.int .i64 rf, .int .i64 rt, .int .i64 rs, .int .i64 rg, .int .i64 rb, .int .i64 rr, .int .u16 ru, .int .i64 rh] 47)).alloc (.cells #[.int .i64 0, .int .i64 0, .int .i64 0] 43)).drew from below_drew (((Below.refl _ w).alloc (Nat.le_refl _) _).alloc (by simp) _))
  have hsz : ((w.alloc (.cells #[.int .i64 rf, .int .i64 rt, .int .i64 rs, .int .i64 rg, .int .i64 rb, .int .i64 rr, .int .u16 ru, .int .i64 rh] 47)).alloc (.cells #[.int .i64 0, .int .i64 0, .int .i64 0] 43)).drew.heap.size = w.heap.size + 2 := by simp
  have HSZ := Lib.hid hsz
  clear h hsz
  go_enter Try.func17, Try.ntmps17
  go_wp2
  refine wp_region_seq [(0, true), (1, true), (2, true), (3, true), (4, true), (5, true), (6, true), (7, true), (8, true), (9, true), (10, true), (11, true), (12, true), (13, true), (14, true), (15, true), (16, true), (17, true), (18, true), (19, true), (20, true), (21, true), (22, true), (23, true), (24, true), (25, true), (26, true), (27, true), (28, true), (29, true), (30, true), (31, true), (32, true), (33, true), (34, true), (35, true)] (fun w' => w'.cell? ⟨p, 0, none⟩ = some (.int .i64 me) ∧ w'.cell? ⟨p, 1, none⟩ = some (.int .i64 st) ∧ w'.cell? ⟨p, 2, none⟩ = some (.int .i64 ss) ∧ w'.cell? ⟨p, 3, none⟩ = some (.bool true) ∧ w'.cell? ⟨w.heap.size, 0, none⟩ = some (.int .i64 rf) ∧ w'.cell? ⟨w.heap.size, 1, none⟩ = some (.int .i64 rt) ∧ w'.cell? ⟨w.heap.size, 2, none⟩ = some (.int .i64 rs)) (by kernel_rfl) (by kernel_rfl) ⟨HP.out.cell 0, HP.out.cell 1, HP.out.cell 2, HP.out.cell 3, HR.out.cell 0, HR.out.cell 1, HR.out.cell 2⟩ (fun hHeld => ?_)
  simp only [List.map_cons, List.map_nil, List.getElem?_toArray, List.getElem?_cons_zero, List.getElem?_cons_succ]
  repeat (first | (refine seq_skip (by rfl) ?_; try simp only [Act.put, List.setIfInBounds_toArray, List.set_cons_zero, List.set_cons_succ]) | (refine seq_not (by rfl) (by assumption) ?_; try simp only [Act.put, List.setIfInBounds_toArray, List.set_cons_zero, List.set_cons_succ]) | (refine seq_take (v := ?_) (by rfl) ?_ ?_; rotate_left; (focus ((intro w hSw; (try dsimp only at hSw); go_simp; (try with_reducible rfl)); done)); try simp only [Act.put, List.setIfInBounds_toArray, List.set_cons_zero, List.set_cons_succ]))
  refine seq_done ?_
  clear hHeld
  generalize ((w.alloc (.cells #[.int .i64 rf, .int .i64 rt, .int .i64 rs, .int .i64 rg, .int .i64 rb, .int .i64 rr, .int .u16 ru, .int .i64 rh] 47)).alloc (.cells #[.int .i64 0, .int .i64 0, .int .i64 0] 43)).drew = w2 at HP HR HZ HB HSZ ⊢
  have hz := HSZ.out
  have r2 : w2.cell? ⟨w.heap.size, 2, none⟩ = some (.int .i64 rs) := HR.out.cell 2
  have r3 : w2.cell? ⟨w.heap.size, 3, none⟩ = some (.int .i64 rg) := HR.out.cell 3
  have r4 : w2.cell? ⟨w.heap.size, 4, none⟩ = some (.int .i64 rb) := HR.out.cell 4
  go_upto_region 4 with fail
  clear r2 r3 r4
  go_cut [9] (fun e9 wx => ∃ b, e9 = .pointer (some ⟨b, 0, none⟩) ∧ Blk wx b 43 #[.int .i64 loc, .int .i64 o, .int .i64 h1] ∧ Pd wx p me ⟨st, ss, true, sd, sv, sr⟩ ∧ Blk wx (w.heap.size + 2) 23 #[.int .i64 rs, .int .i64 rg, .int .i64 rb, .int .i64 loc] ∧ Blk wx (w.heap.size + 1) 43 #[.int .i64 0, .int .i64 0, .int .i64 0] ∧ Below w.heap.size w wx ∧ w.heap.size + 3 ≤ b)
  case first =>
    have HP3 := Lib.hid (HP.out.alloc (.cells #[.int .i64 rs, .int .i64 rg, .int .i64 rb, .int .i64 loc] 23)).drew
    have HR3 := Lib.hid (HR.out.alloc (.cells #[.int .i64 rs, .int .i64 rg, .int .i64 rb, .int .i64 loc] 23)).drew
    have HZ3 := Lib.hid (HZ.out.alloc (.cells #[.int .i64 rs, .int .i64 rg, .int .i64 rb, .int .i64 loc] 23)).drew
    have HT3 := Lib.hid (Blk.new w2 23 #[.int .i64 rs, .int .i64 rg, .int .i64 rb, .int .i64 loc]).drew
    rw [HSZ.out] at HT3
    have HB3 := Lib.hid (below_drew (HB.out.alloc (by rw [HSZ.out]; omega) (.cells #[.int .i64 rs, .int .i64 rg, .int .i64 rb, .int .i64 loc] 23)))
    have HS3 := Lib.hid (show (w2.alloc (.cells #[.int .i64 rs, .int .i64 rg, .int .i64 rb, .int .i64 loc] 23)).drew.heap.size = w.heap.size + 3 by rw [size_drew, World.size_alloc, HSZ.out])
    clear hz
    refine wp_region_tr (.st true 0 (.st true 1 (.st true 3 (.st true 4 (.st true 5 (.two 2 7 (.st true 6 (.st false 7 (.st false 8 .done))) (.st false 2 (.st true 6 (.st false 8 .done))))))))) (fun w' => w'.cell? ⟨w.heap.size + 2, 0, none⟩ = some (.int .i64 rs) ∧ w'.cell? ⟨w.heap.size + 2, 1, none⟩ = some (.int .i64 rg) ∧ w'.cell? ⟨w.heap.size + 2, 2, none⟩ = some (.int .i64 rb) ∧ w'.cell? ⟨w.heap.size + 2, 3, none⟩ = some (.int .i64 loc) ∧ w'.cell? ⟨w.heap.size, 7, none⟩ = some (.int .i64 rh)) (by kernel_rfl) (by kernel_rfl) ⟨HT3.out.cell 0, HT3.out.cell 1, HT3.out.cell 2, HT3.out.cell 3, HR3.out.cell 7⟩ (fun hHeld => ?_)
    simp only [Tr.res, List.getElem?_toArray, List.getElem?_cons_zero, List.getElem?_cons_succ]
    repeat (first | (refine tr_skip (by rfl) ?_; try simp only [Act.put, List.setIfInBounds_toArray, List.set_cons_zero, List.set_cons_succ]) | (refine tr_not (by rfl) (by assumption) ?_; try simp only [Act.put, List.setIfInBounds_toArray, List.set_cons_zero, List.set_cons_succ]) | (refine tr_take (v := ?_) (by rfl) ?_ ?_; rotate_left; (focus ((intro w hSw; (try dsimp only at hSw); go_simp; (try with_reducible rfl)); done)); try simp only [Act.put, List.setIfInBounds_toArray, List.set_cons_zero, List.set_cons_succ]))
    refine tr_two ?_ ?_
    · refine tr_do (fun K hK => ?_)
      go_simp
      go_at_call 11
      (with_reducible refine Calls.mono (HO.out _) ?_)
      rintro e w5 ⟨rfl, hb⟩
      have HP5 := Lib.hid (HP3.out.keeps hb)
      have HR5 := Lib.hid (HR3.out.keeps hb)
      have HZ5 := Lib.hid (HZ3.out.keeps hb)
      have HT5 := Lib.hid (HT3.out.keeps hb)
      have HB5 := Lib.hid (HB3.out.trans (hb.mono HB3.out.size))
      have HS5 := Lib.hid (show w.heap.size + 3 ≤ w5.heap.size by have := hb.size; rw [HS3.out] at this; exact this)
      dsimp only
      refine hK.out _ _ ⟨HT5.out.cell 0, HT5.out.cell 1, HT5.out.cell 2, HT5.out.cell 3, HR5.out.cell 7⟩ (fun hHeld => ?_)
      clear hK K hb
      repeat (first | (refine tr_skip (by rfl) ?_; try simp only [Act.put, List.setIfInBounds_toArray, List.set_cons_zero, List.set_cons_succ]) | (refine tr_not (by rfl) (by assumption) ?_; try simp only [Act.put, List.setIfInBounds_toArray, List.set_cons_zero, List.set_cons_succ]) | (refine tr_take (v := ?_) (by rfl) ?_ ?_; rotate_left; (focus ((intro w hSw; (try dsimp only at hSw); go_simp; (try with_reducible rfl)); done)); try simp only [Act.put, List.setIfInBounds_toArray, List.set_cons_zero, List.set_cons_succ]))
      refine tr_do (fun K hK => ?_)
      go_simp
      refine hK.out _ _ ⟨(HT5.out.alloc _).cell 0, (HT5.out.alloc _).cell 1, (HT5.out.alloc _).cell 2, (HT5.out.alloc _).cell 3, (HR5.out.alloc _).cell 7⟩ (fun hHeld => ?_)
      clear hK K
      refine tr_do (fun K hK => ?_)
      go_simp
      refine hK.out _ _ ⟨(HT5.out.alloc _).cell 0, (HT5.out.alloc _).cell 1, (HT5.out.alloc _).cell 2, (HT5.out.alloc _).cell 3, (HR5.out.alloc _).cell 7⟩ (fun hHeld => ?_)
      clear hK K
      refine tr_done ?_
      clear hHeld
      go_wp2
      go_meet
      exact ⟨_, rfl, Blk.new _ _ _, HP5.out.alloc _, HT5.out.alloc _, HZ5.out.alloc _, HB5.out.alloc HB5.out.size _, HS5.out⟩
    · refine tr_do (fun K hK => ?_)
      go_simp
      refine hK.out _ _ ⟨(HT3.out.alloc _).cell 0, (HT3.out.alloc _).cell 1, (HT3.out.alloc _).cell 2, (HT3.out.alloc _).cell 3, (HR3.out.alloc _).cell 7⟩ (fun hHeld => ?_)
      clear hK K
      refine tr_do (fun K hK => ?_)
      go_simp
      go_at_call 11
      (with_reducible refine Calls.mono (HO.out _) ?_)
      rintro e w5 ⟨rfl, hb⟩
      have HP5 := Lib.hid ((HP3.out.alloc _).keeps hb)
      have HR5 := Lib.hid ((HR3.out.alloc _).keeps hb)
      have HZ5 := Lib.hid ((HZ3.out.alloc _).keeps hb)
      have HT5 := Lib.hid ((HT3.out.alloc _).keeps hb)
      have HN5 := Lib.hid ((Blk.new (w2.alloc (.cells #[.int .i64 rs, .int .i64 rg, .int .i64 rb, .int .i64 loc] 23)) 43 #[.int .i64 0, .int .i64 0, .int .i64 0]).drew.keeps hb)
      have HB5 := Lib.hid ((HB3.out.alloc HB3.out.size _).trans (hb.mono (HB3.out.alloc HB3.out.size _).size))
      dsimp only
      refine hK.out _ _ ⟨HT5.out.cell 0, HT5.out.cell 1, HT5.out.cell 2, HT5.out.cell 3, HR5.out.cell 7⟩ (fun hHeld => ?_)
      clear hK K hb
      repeat (first | (refine tr_skip (by rfl) ?_; try simp only [Act.put, List.setIfInBounds_toArray, List.set_cons_zero, List.set_cons_succ]) | (refine tr_not (by rfl) (by assumption) ?_; try simp only [Act.put, List.setIfInBounds_toArray, List.set_cons_zero, List.set_cons_succ]) | (refine tr_take (v := ?_) (by rfl) ?_ ?_; rotate_left; (focus ((intro w hSw; (try dsimp only at hSw); go_simp; (try with_reducible rfl)); done)); try simp only [Act.put, List.setIfInBounds_toArray, List.set_cons_zero, List.set_cons_succ]))
      have hnn := HN5.out
      rw [World.size_alloc] at hnn
      have hy := cells3 hnn
      obtain ⟨y0, y1, y2, y3, y4, y5⟩ := hy
      have HN6 := Lib.hid hnn
      clear hnn
      refine tr_do (fun K hK => ?_)
      go_simp
      have hz9 := HSZ.out
      have hT : Blk (((w5.setCell ⟨w2.heap.size + 1, 0, none⟩ (.int .i64 loc)).setCell ⟨w2.heap.size + 1, 1, none⟩ (.int .i64 o)).setCell ⟨w2.heap.size + 1, 2, none⟩ (.int .i64 h1)) (w.heap.size + 2) 23 #[.int .i64 rs, .int .i64 rg, .int .i64 rb, .int .i64 loc] := by
        have k := HT5.out
        ((repeat (first | (with_reducible assumption) | (with_reducible apply Blk.drew) | (with_reducible apply set_at) | ((with_reducible apply set_far); (focus omega)) | (with_reducible apply Blk.alloc))); all_goals rfl)
      have hR : Blk (((w5.setCell ⟨w2.heap.size + 1, 0, none⟩ (.int .i64 loc)).setCell ⟨w2.heap.size + 1, 1, none⟩ (.int .i64 o)).setCell ⟨w2.heap.size + 1, 2, none⟩ (.int .i64 h1)) w.heap.size 47 #[.int .i64 rf, .int .i64 rt, .int .i64 rs, .int .i64 rg, .int .i64 rb, .int .i64 rr, .int .u16 ru, .int .i64 rh] := by
        have k := HR5.out
        ((repeat (first | (with_reducible assumption) | (with_reducible apply Blk.drew) | (with_reducible apply set_at) | ((with_reducible apply set_far); (focus omega)) | (with_reducible apply Blk.alloc))); all_goals rfl)
      have hP : Pd (((w5.setCell ⟨w2.heap.size + 1, 0, none⟩ (.int .i64 loc)).setCell ⟨w2.heap.size + 1, 1, none⟩ (.int .i64 o)).setCell ⟨w2.heap.size + 1, 2, none⟩ (.int .i64 h1)) p me ⟨st, ss, true, sd, sv, sr⟩ := by
        have k := HP5.out
        ((repeat (first | (with_reducible assumption) | (with_reducible apply Blk.drew) | (with_reducible apply set_at) | ((with_reducible apply set_far); (focus omega)) | (with_reducible apply Blk.alloc))); all_goals rfl)
      have hZ : Blk (((w5.setCell ⟨w2.heap.size + 1, 0, none⟩ (.int .i64 loc)).setCell ⟨w2.heap.size + 1, 1, none⟩ (.int .i64 o)).setCell ⟨w2.heap.size + 1, 2, none⟩ (.int .i64 h1)) (w.heap.size + 1) 43 #[.int .i64 0, .int .i64 0, .int .i64 0] := by
        have k := HZ5.out
        ((repeat (first | (with_reducible assumption) | (with_reducible apply Blk.drew) | (with_reducible apply set_at) | ((with_reducible apply set_far); (focus omega)) | (with_reducible apply Blk.alloc))); all_goals rfl)
      have hN : Blk (((w5.setCell ⟨w2.heap.size + 1, 0, none⟩ (.int .i64 loc)).setCell ⟨w2.heap.size + 1, 1, none⟩ (.int .i64 o)).setCell ⟨w2.heap.size + 1, 2, none⟩ (.int .i64 h1)) (w2.heap.size + 1) 43 #[.int .i64 loc, .int .i64 o, .int .i64 h1] := by
        have k := HN6.out
        ((repeat (first | (with_reducible assumption) | (with_reducible apply Blk.drew) | (with_reducible apply set_at) | ((with_reducible apply set_far); (focus omega)) | (with_reducible apply Blk.alloc))); all_goals rfl)
      have hB : Below w.heap.size w (((w5.setCell ⟨w2.heap.size + 1, 0, none⟩ (.int .i64 loc)).setCell ⟨w2.heap.size + 1, 1, none⟩ (.int .i64 o)).setCell ⟨w2.heap.size + 1, 2, none⟩ (.int .i64 h1)) := by
        have k := HB5.out
        (repeat (first | (with_reducible assumption) | (with_reducible apply below_drew) | ((with_reducible apply below_set); (focus omega)) | ((with_reducible apply below_at); (focus ((try simp only [size_set, size_drew, World.size_alloc]); omega)))))
      have HT7 := Lib.hid hT
      have HR7 := Lib.hid hR
      have HP7 := Lib.hid hP
      have HZ7 := Lib.hid hZ
      have HN7 := Lib.hid hN
      have HB7 := Lib.hid hB
      clear hT hR hP hZ hN hB hz9
      refine hK.out _ _ ⟨HT7.out.cell 0, HT7.out.cell 1, HT7.out.cell 2, HT7.out.cell 3, HR7.out.cell 7⟩ (fun hHeld => ?_)
      clear hK K
      refine tr_done ?_
      clear hHeld
      go_wp2
      go_meet
      exact ⟨_, rfl, HN7.out, HP7.out, HT7.out, HZ7.out, HB7.out, by have := HSZ.out; omega⟩
  case rest =>
    obtain ⟨b, rfl, hxb, hp, ht, hzz, hB, hbl⟩ := hcut
    have HP := Lib.hid hp
    have HT := Lib.hid ht
    have HZ := Lib.hid hzz
    have HX := Lib.hid hxb
    have HB := Lib.hid hB
    have htc := cells4 ht
    obtain ⟨t0, t1, t2, t3⟩ := htc
    clear hp ht hzz hxb hB hz
    have n1 : ¬ p = b := by omega
    have n2 : ¬ b = p := by omega
    have n3 : ¬ p = w.heap.size + 1 := by omega
    have n4 : ¬ w.heap.size + 1 = p := by omega
    have n5 : ¬ b = w.heap.size + 1 := by omega
    have n6 : ¬ w.heap.size + 1 = b := by omega
    go_wp2_with (first
      | (go_at_call 10; (with_reducible refine Calls.mono (HG.out _) ?_); rintro e w6 ⟨rfl, hb⟩; have HP6 := Lib.hid (HP.out.keeps hb); have HZ6 := Lib.hid (HZ.out.keeps hb); have HX6 := Lib.hid (HX.out.keeps hb); have HB6 := Lib.hid (HB.out.trans (hb.mono HB.out.size)); have hx := cells3 HX6.out; obtain ⟨x0, x1, x2, x3, x4, x5⟩ := hx; clear hb)
      | (go_at_call 29; (with_reducible refine Calls.mono (HE.out _) ?_); rintro e w7 ⟨rfl, hb⟩; clear x0 x1 x2 x3 x4 x5; have HP7 := Lib.hid (HP6.out.keeps hb); have HZ7 := Lib.hid (HZ6.out.keeps hb); have HX7 := Lib.hid (HX6.out.keeps hb); have HB7 := Lib.hid (HB6.out.trans (hb.mono HB6.out.size)); have hy := cells3 HZ7.out; obtain ⟨z0, z1, z2, z3, z4, z5⟩ := hy; have hx := cells3 HX7.out; obtain ⟨x0, x1, x2, x3, x4, x5⟩ := hx; have hq := cells7 HP7.out; obtain ⟨⟨p0, p1, p2, p3, p4, p5, p6⟩, f0, f1, f2, f3, f4, f5, f6⟩ := hq; clear hb))
    have k1 := HZ7.out
    have k2 := HP7.out
    have k3 := Kp.of_below (S := fun k => k = p) HB7.out
    refine ret_hear _ _ _ (w.heap.size + 1) 43 loc o h1 true rfl rfl rfl ?_ ⟨by rw [HOO.out, HH1.out], ?_, ?_⟩
    · ((repeat (first | (with_reducible assumption) | (with_reducible apply Blk.drew) | (with_reducible apply set_at) | ((with_reducible apply set_far); (focus omega)) | (with_reducible apply Blk.alloc))); all_goals rfl)
    · ((repeat (first | (with_reducible assumption) | (with_reducible apply Blk.drew) | (with_reducible apply set_at) | ((with_reducible apply set_far); (focus omega)) | (with_reducible apply Blk.alloc))); all_goals rfl)
    · (repeat (first | (with_reducible assumption) | (with_reducible apply Kp.drew) | ((with_reducible apply kp_set); (focus (first | exact .inl rfl | (right; (try simp only [size_set, size_drew, World.size_alloc]); omega)))) | (with_reducible apply Kp.alloc) | (with_reducible exact Kp.refl _ _)))
end Go.Proofs.Ythnnejflgbminab.Pr
