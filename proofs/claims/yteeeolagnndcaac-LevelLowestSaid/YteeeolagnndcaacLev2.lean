/- The walks of Tell, of the document's level, and of what tells that the program answers. -/
import Derived.Test.YteeeolagnndcaacLev
namespace Go.Proofs.Yteeeolagnndcaac.Lev
open Go.RowKit Go.Proofs.Yteeeolagnndcaac.Bk Go.Proofs.Yteeeolagnndcaac.Rw Go.Proofs.Yteeeolagnndcaac.Ow Go.Proofs.Yteeeolagnndcaac.Kp Go.Proofs.Yteeeolagnndcaac.Sq Go.Proofs.Yteeeolagnndcaac.Frm

theorem ret13 (Q : Ending → World → Prop) (a : Act) (W : World) (g : Nat) (t : TypeId) (x y : Int) (ok : Bool) (h2 : a.tmps.getD 4 undef = .pointer (some ⟨g, 0, none⟩)) (h3 : a.tmps.getD 5 undef = .bool ok) (hd : a.defers = [])
    (hb : Blk W g t #[.int .i64 x, .int .i64 y]) (hq : Q (.returned (.tuple #[.agg #[.int .i64 x, .int .i64 y], .bool ok])) W) : bodyPost Try.prog Try.f13 Q .ret a W := by
  have q0 : W.cell? ⟨g, 0, none⟩ = some (.int .i64 x) := hb.cell 0
  have q1 : W.cell? ⟨g, 1, none⟩ = some (.int .i64 y) := hb.cell 1
  obtain ⟨tmps, defers⟩ := a
  simp only at h2 h3 hd
  subst hd
  rw [Array.getD_eq_getD_getElem?] at h2 h3
  refine bodyPost_ret (v := .tuple #[.agg #[.int .i64 x, .int .i64 y], .bool ok]) ?_ rfl hq
  simp [results, Try.results13, go_sem, h2, h3, q0, q1]
theorem tell_nil (i : Bool) (w : World) : Calls Try.prog 13 #[.pointer none, .bool i] w fun e w' => e = .returned (.tuple #[.agg #[.int .i64 0, .int .i64 0], .bool false]) ∧ Below w.heap.size w w' := by
  go_enter Try.func13, Try.ntmps13
  go_wp2
  exact ret13 _ _ _ w.heap.size 30 0 0 false rfl rfl rfl (Blk.new _ _ _) ⟨rfl, (Below.refl _ _).alloc (Nat.le_refl _) _⟩
theorem tell_self (p : Nat) (me l q : Int) (w : World) (h : Lv w p me l q) : Calls Try.prog 13 #[.pointer (some ⟨p, 0, none⟩), .bool true] w fun e w' => e = .returned (.tuple #[.agg #[.int .i64 me, .int .i64 0], .bool true]) ∧ Below w.heap.size w w' := by
  have c0 : (w.alloc (.cells #[.int .i64 0, .int .i64 0] 30)).cell? ⟨p, 0, none⟩ = some (.int .i64 me) := (h.alloc _).cell 0
  clear h
  go_enter Try.func13, Try.ntmps13
  go_wp2
  exact ret13 _ _ _ w.heap.size 30 me 0 true rfl rfl rfl (Blk.new _ _ _) ⟨rfl, (Below.refl _ _).alloc (Nat.le_refl _) _⟩
theorem tell_no (p : Nat) (me l q : Int) (w : World) (h : Lv w p me l q) (hl : l < 0) : Calls Try.prog 13 #[.pointer (some ⟨p, 0, none⟩), .bool false] w fun e w' => e = .returned (.tuple #[.agg #[.int .i64 0, .int .i64 0], .bool false]) ∧ Below w.heap.size w w' := by
  have c1 : (w.alloc (.cells #[.int .i64 0, .int .i64 0] 30)).cell? ⟨p, 1, none⟩ = some (.int .i64 l) := (h.alloc _).cell 1
  clear h
  go_enter Try.func13, Try.ntmps13
  go_wp2
  exact ret13 _ _ _ w.heap.size 30 0 0 false rfl rfl rfl (Blk.new _ _ _) ⟨rfl, (Below.refl _ _).alloc (Nat.le_refl _) _⟩
theorem tell_yes (p : Nat) (me l q : Int) (w : World) (h : Lv w p me l q) (hl : 0 ≤ l) : Calls Try.prog 13 #[.pointer (some ⟨p, 0, none⟩), .bool false] w fun e w' => e = .returned (.tuple #[.agg #[.int .i64 me, .int .i64 l], .bool true]) ∧ Below w.heap.size w w' := by
  have hpb : p < w.heap.size := h.lt
  have hb : Below w.heap.size w (w.alloc (.cells #[.int .i64 0, .int .i64 0] 30)) := (Below.refl _ w).alloc (Nat.le_refl _) _
  have hx : Blk (w.alloc (.cells #[.int .i64 0, .int .i64 0] 30)) w.heap.size 30 #[.int .i64 0, .int .i64 0] := Blk.new w _ _
  have hl2 : Blk (w.alloc (.cells #[.int .i64 0, .int .i64 0] 30)) p 47 #[.int .i64 me, .int .i64 l, .int .i64 q] := h.alloc _
  have c1 : (w.alloc (.cells #[.int .i64 0, .int .i64 0] 30)).cell? ⟨p, 1, none⟩ = some (.int .i64 l) := hl2.cell 1
  have HB := Lib.hid hb
  have HX := Lib.hid hx
  have HL := Lib.hid hl2
  clear hb hx hl2 h
  go_enter Try.func13, Try.ntmps13
  go_wp2
  generalize hw1 : w.alloc (.cells #[.int .i64 0, .int .i64 0] 30) = w1 at HB HX HL c1 ⊢
  clear hw1
  have c0 : w1.cell? ⟨p, 0, none⟩ = some (.int .i64 me) := HL.out.cell 0
  have x0 : w1.cell? ⟨w.heap.size, 0, none⟩ = some (.int .i64 0) := HX.out.cell 0
  have x1 : w1.cell? ⟨w.heap.size, 1, none⟩ = some (.int .i64 0) := HX.out.cell 1
  have f0 := HX.out.frozen 0
  have f1 := HX.out.frozen 1
  go_region
  go_wp2
  exact ret13 _ _ _ w.heap.size 30 me l true rfl rfl rfl ((HX.out.set_ 0 (.int .i64 me)).set_ 1 (.int .i64 l)).drew ⟨rfl, below_drew_ ((HB.out.setCell (p := ⟨w.heap.size, 0, none⟩) (Nat.le_refl _) _).setCell (p := ⟨w.heap.size, 1, none⟩) (Nat.le_refl _) _)⟩

/-- The document's level at block r. -/
abbrev Rl (w : World) (r : Nat) (me l q : Int) : Prop := Blk w r 44 #[.int .i64 me, .int .i64 l, .int .i64 q]
theorem rnew_ok (me : Int) (w : World) :
    Calls Try.prog 14 #[.int .i64 me] w fun e w' => e = .returned (.pointer (some ⟨w.heap.size, 0, none⟩)) ∧ w' = w.alloc (.cells #[.int .i64 me, .int .i64 (-1), .int .i64 (-1)] 44) := by
  go_enter Try.func14, Try.ntmps14
  go_wp2
  go_ret
  exact ⟨rfl, rfl⟩
theorem rhear_bad (r : Nat) (me l q a b : Int) (w : World) (h : Rl w r me l q) (hg : okFind a b = false ∨ a = me) :
    Calls Try.prog 15 #[.pointer (some ⟨r, 0, none⟩), .int .i64 a, .int .i64 b] w fun e w' => e = .returned (.bool false) ∧ w = w' := by
  have hk : a < 0 ∨ 63 < a ∨ b < 0 ∨ 63 < b ∨ a = me := by
    rcases hg with hg | hg
    · have := mt (okFind_iff a b).2 (by simp [hg])
      omega
    · omega
  have c0 : w.cell? ⟨r, 0, none⟩ = some (.int .i64 me) := h.cell 0
  clear h hg
  by_cases h1 : a < 0
  · clear hk
    go_enter Try.func15, Try.ntmps15
    go_wp2
    go_ret
    exact ⟨rfl, rfl⟩
  by_cases h2 : 63 < a
  · clear hk
    go_enter Try.func15, Try.ntmps15
    go_wp2
    go_ret
    exact ⟨rfl, rfl⟩
  by_cases h3 : b < 0
  · clear hk
    go_enter Try.func15, Try.ntmps15
    go_wp2
    go_ret
    exact ⟨rfl, rfl⟩
  by_cases h4 : 63 < b
  · clear hk
    go_enter Try.func15, Try.ntmps15
    go_wp2
    go_ret
    exact ⟨rfl, rfl⟩
  have h5 : (a == me) = true := by
    rw [beq_iff_eq]
    omega
  clear hk
  go_enter Try.func15, Try.ntmps15
  go_wp2
  go_ret
  exact ⟨rfl, rfl⟩

theorem new_at {W : World} {n : Nat} (hn : W.heap.size = n) (t : TypeId) (cs : Array Value) : Blk (W.alloc (.cells cs t)) n t cs := hn ▸ Blk.new W t cs
def Lq (l q : Int) : Prop := (l = -1 ∧ q = -1) ∨ (1 ≤ l ∧ l ≤ 63 ∧ 0 ≤ q ∧ q ≤ 63)
theorem rh_lost (r : Nat) (me l q a b : Int) (w : World) (h : Rl w r me l q) (h1 : 0 ≤ a) (h2 : a ≤ 63) (hm : a ≠ me) (hq : (a == q) = true) (hb : b = 63) (hn : (-1 != l) = true) :
    Calls Try.prog 15 #[.pointer (some ⟨r, 0, none⟩), .int .i64 a, .int .i64 b] w fun e w' => e = .returned (.bool true) ∧ Rl w' r me (-1) (-1) ∧ Kp (fun k => k = r) w w' := by
  subst hb
  have hm2 : (a == me) = false := by simpa using hm
  have hrb : r < w.heap.size := h.lt
  have hrw : ¬ r = w.heap.size := by omega
  have hwr2 : ¬ w.heap.size = r := by omega
  have c0 : w.cell? ⟨r, 0, none⟩ = some (.int .i64 me) := h.cell 0
  have c1 : w.cell? ⟨r, 1, none⟩ = some (.int .i64 l) := h.cell 1
  have c2 : w.cell? ⟨r, 2, none⟩ = some (.int .i64 q) := h.cell 2
  have H := Lib.hid h
  have HA := Lib.hid (Blk.alloc h (.cells #[.int .i64 me, .int .i64 l, .int .i64 q] 44))
  have d1 : (w.alloc (.cells #[.int .i64 me, .int .i64 l, .int .i64 q] 44)).cell? ⟨r, 1, none⟩ = some (.int .i64 l) := HA.out.cell 1
  have d2 : (w.alloc (.cells #[.int .i64 me, .int .i64 l, .int .i64 q] 44)).cell? ⟨r, 2, none⟩ = some (.int .i64 q) := HA.out.cell 2
  have f1 := HA.out.frozen 1
  have f2 := HA.out.frozen 2
  have g1 := h.frozen 1
  have g2 := h.frozen 2
  clear h hm
  go_enter Try.func15, Try.ntmps15
  go_wp2
  have HL5 := Lib.hid (Blk.alloc ((((H.out).set_ 1 (.int .i64 (64))).set_ 1 (.int .i64 (-1))).set_ 2 (.int .i64 (-1))) (.cells #[.int .i64 me, .int .i64 l, .int .i64 q] 44))
  have HX5 := Lib.hid (new_at (W := (((w.setCell ⟨r, 1, none⟩ (.int .i64 (64))).setCell ⟨r, 1, none⟩ (.int .i64 (-1))).setCell ⟨r, 2, none⟩ (.int .i64 (-1)))) (n := w.heap.size) (by simp [World.setCell]) 44 #[.int .i64 me, .int .i64 l, .int .i64 q])
  have HK5 := Lib.hid (Kp.alloc ((((Kp.refl (fun k => k = r) w).set_ ⟨r, 1, none⟩ (.inl rfl) (.int .i64 (64))).set_ ⟨r, 1, none⟩ (.inl rfl) (.int .i64 (-1))).set_ ⟨r, 2, none⟩ (.inl rfl) (.int .i64 (-1))) (.cells #[.int .i64 me, .int .i64 l, .int .i64 q] 44))
  clear c0 c1 c2 d1 d2 f1 f2 g1 g2
  refine wp_region_seq [(0, true), (1, true), (2, true), (3, true), (4, true), (5, true), (6, true), (7, true), (8, true), (9, true), (10, true), (11, true), (12, true), (13, true), (14, true), (15, true), (16, true)] (fun w' => w'.cell? ⟨w.heap.size, 1, none⟩ = some (.int .i64 l) ∧ w'.cell? ⟨w.heap.size, 2, none⟩ = some (.int .i64 q) ∧ w'.cell? ⟨r, 1, none⟩ = some (.int .i64 (-1)) ∧ w'.cell? ⟨r, 2, none⟩ = some (.int .i64 (-1))) (by kernel_rfl) (by kernel_rfl) ⟨HX5.out.drew.cell 1, HX5.out.drew.cell 2, HL5.out.drew.cell 1, HL5.out.drew.cell 2⟩ (fun hHeld => ?_)
  simp only [List.map_cons, List.map_nil, List.getElem?_toArray, List.getElem?_cons_zero, List.getElem?_cons_succ]
  repeat (first | (refine seq_skip (by rfl) ?_; try simp only [Act.put, List.setIfInBounds_toArray, List.set_cons_zero, List.set_cons_succ]) | (refine seq_not (by rfl) (by assumption) ?_; try simp only [Act.put, List.setIfInBounds_toArray, List.set_cons_zero, List.set_cons_succ]) | (refine seq_take (v := ?_) (by rfl) ?_ ?_; rotate_left; (focus ((intro w hSw; (try dsimp only at hSw); go_simp; (try with_reducible rfl)); done)); try simp only [Act.put, List.setIfInBounds_toArray, List.set_cons_zero, List.set_cons_succ]))
  refine seq_done ?_
  clear hHeld
  go_wp2
  go_ret
  exact ⟨rfl, HL5.out.drew, HK5.out.drew⟩
theorem rh_same (r : Nat) (me l q a b : Int) (w : World) (h : Rl w r me l q) (h1 : 0 ≤ a) (h2 : a ≤ 63) (hm : a ≠ me) (hq : (a == q) = true) (h3 : 0 ≤ b) (hb : b < 63) (hl : (b + 1 != l) = false) :
    Calls Try.prog 15 #[.pointer (some ⟨r, 0, none⟩), .int .i64 a, .int .i64 b] w fun e w' => e = .returned (.bool false) ∧ Rl w' r me (b + 1) (q) ∧ Kp (fun k => k = r) w w' := by
  have hb6 : (b == 63) = false := by simp; omega
  have hn2 : (q != q) = false := by simp
  have hm2 : (a == me) = false := by simpa using hm
  have hrb : r < w.heap.size := h.lt
  have hrw : ¬ r = w.heap.size := by omega
  have hwr2 : ¬ w.heap.size = r := by omega
  have c0 : w.cell? ⟨r, 0, none⟩ = some (.int .i64 me) := h.cell 0
  have c1 : w.cell? ⟨r, 1, none⟩ = some (.int .i64 l) := h.cell 1
  have c2 : w.cell? ⟨r, 2, none⟩ = some (.int .i64 q) := h.cell 2
  have H := Lib.hid h
  have HA := Lib.hid (Blk.alloc h (.cells #[.int .i64 me, .int .i64 l, .int .i64 q] 44))
  have d1 : (w.alloc (.cells #[.int .i64 me, .int .i64 l, .int .i64 q] 44)).cell? ⟨r, 1, none⟩ = some (.int .i64 l) := HA.out.cell 1
  have d2 : (w.alloc (.cells #[.int .i64 me, .int .i64 l, .int .i64 q] 44)).cell? ⟨r, 2, none⟩ = some (.int .i64 q) := HA.out.cell 2
  have f1 := HA.out.frozen 1
  have f2 := HA.out.frozen 2
  have g1 := h.frozen 1
  have g2 := h.frozen 2
  clear h hm
  go_enter Try.func15, Try.ntmps15
  go_wp2
  have HL5 := Lib.hid (Blk.alloc ((H.out).set_ 1 (.int .i64 (b + 1))) (.cells #[.int .i64 me, .int .i64 l, .int .i64 q] 44))
  have HX5 := Lib.hid (new_at (W := (w.setCell ⟨r, 1, none⟩ (.int .i64 (b + 1)))) (n := w.heap.size) (by simp [World.setCell]) 44 #[.int .i64 me, .int .i64 l, .int .i64 q])
  have HK5 := Lib.hid (Kp.alloc ((Kp.refl (fun k => k = r) w).set_ ⟨r, 1, none⟩ (.inl rfl) (.int .i64 (b + 1))) (.cells #[.int .i64 me, .int .i64 l, .int .i64 q] 44))
  clear c0 c1 c2 d1 d2 f1 f2 g1 g2
  refine wp_region_seq [(0, true), (1, true), (2, true), (3, true), (4, true), (5, true), (6, true), (7, true), (8, true), (9, true), (10, true), (11, true), (12, true), (13, true), (14, true), (15, true), (16, true)] (fun w' => w'.cell? ⟨w.heap.size, 1, none⟩ = some (.int .i64 l) ∧ w'.cell? ⟨w.heap.size, 2, none⟩ = some (.int .i64 q) ∧ w'.cell? ⟨r, 1, none⟩ = some (.int .i64 (b + 1)) ∧ w'.cell? ⟨r, 2, none⟩ = some (.int .i64 (q))) (by kernel_rfl) (by kernel_rfl) ⟨HX5.out.drew.cell 1, HX5.out.drew.cell 2, HL5.out.drew.cell 1, HL5.out.drew.cell 2⟩ (fun hHeld => ?_)
  simp only [List.map_cons, List.map_nil, List.getElem?_toArray, List.getElem?_cons_zero, List.getElem?_cons_succ]
  repeat (first | (refine seq_skip (by rfl) ?_; try simp only [Act.put, List.setIfInBounds_toArray, List.set_cons_zero, List.set_cons_succ]) | (refine seq_not (by rfl) (by assumption) ?_; try simp only [Act.put, List.setIfInBounds_toArray, List.set_cons_zero, List.set_cons_succ]) | (refine seq_take (v := ?_) (by rfl) ?_ ?_; rotate_left; (focus ((intro w hSw; (try dsimp only at hSw); go_simp; (try with_reducible rfl)); done)); try simp only [Act.put, List.setIfInBounds_toArray, List.set_cons_zero, List.set_cons_succ]))
  refine seq_done ?_
  clear hHeld
  go_wp2
  go_ret
  exact ⟨rfl, HL5.out.drew, HK5.out.drew⟩
theorem rh_keep (r : Nat) (me l q a b : Int) (w : World) (h : Rl w r me l q) (h1 : 0 ≤ a) (h2 : a ≤ 63) (hm : a ≠ me) (hq : (a == q) = true) (h3 : 0 ≤ b) (hb : b < 63) (hl : (b + 1 != l) = true) :
    Calls Try.prog 15 #[.pointer (some ⟨r, 0, none⟩), .int .i64 a, .int .i64 b] w fun e w' => e = .returned (.bool true) ∧ Rl w' r me (b + 1) (q) ∧ Kp (fun k => k = r) w w' := by
  have hb6 : (b == 63) = false := by simp; omega
  have hm2 : (a == me) = false := by simpa using hm
  have hrb : r < w.heap.size := h.lt
  have hrw : ¬ r = w.heap.size := by omega
  have hwr2 : ¬ w.heap.size = r := by omega
  have c0 : w.cell? ⟨r, 0, none⟩ = some (.int .i64 me) := h.cell 0
  have c1 : w.cell? ⟨r, 1, none⟩ = some (.int .i64 l) := h.cell 1
  have c2 : w.cell? ⟨r, 2, none⟩ = some (.int .i64 q) := h.cell 2
  have H := Lib.hid h
  have HA := Lib.hid (Blk.alloc h (.cells #[.int .i64 me, .int .i64 l, .int .i64 q] 44))
  have d1 : (w.alloc (.cells #[.int .i64 me, .int .i64 l, .int .i64 q] 44)).cell? ⟨r, 1, none⟩ = some (.int .i64 l) := HA.out.cell 1
  have d2 : (w.alloc (.cells #[.int .i64 me, .int .i64 l, .int .i64 q] 44)).cell? ⟨r, 2, none⟩ = some (.int .i64 q) := HA.out.cell 2
  have f1 := HA.out.frozen 1
  have f2 := HA.out.frozen 2
  have g1 := h.frozen 1
  have g2 := h.frozen 2
  clear h hm
  go_enter Try.func15, Try.ntmps15
  go_wp2
  have HL5 := Lib.hid (Blk.alloc ((H.out).set_ 1 (.int .i64 (b + 1))) (.cells #[.int .i64 me, .int .i64 l, .int .i64 q] 44))
  have HX5 := Lib.hid (new_at (W := (w.setCell ⟨r, 1, none⟩ (.int .i64 (b + 1)))) (n := w.heap.size) (by simp [World.setCell]) 44 #[.int .i64 me, .int .i64 l, .int .i64 q])
  have HK5 := Lib.hid (Kp.alloc ((Kp.refl (fun k => k = r) w).set_ ⟨r, 1, none⟩ (.inl rfl) (.int .i64 (b + 1))) (.cells #[.int .i64 me, .int .i64 l, .int .i64 q] 44))
  clear c0 c1 c2 d1 d2 f1 f2 g1 g2
  refine wp_region_seq [(0, true), (1, true), (2, true), (3, true), (4, true), (5, true), (6, true), (7, true), (8, true), (9, true), (10, true), (11, true), (12, true), (13, true), (14, true), (15, true), (16, true)] (fun w' => w'.cell? ⟨w.heap.size, 1, none⟩ = some (.int .i64 l) ∧ w'.cell? ⟨w.heap.size, 2, none⟩ = some (.int .i64 q) ∧ w'.cell? ⟨r, 1, none⟩ = some (.int .i64 (b + 1)) ∧ w'.cell? ⟨r, 2, none⟩ = some (.int .i64 (q))) (by kernel_rfl) (by kernel_rfl) ⟨HX5.out.drew.cell 1, HX5.out.drew.cell 2, HL5.out.drew.cell 1, HL5.out.drew.cell 2⟩ (fun hHeld => ?_)
  simp only [List.map_cons, List.map_nil, List.getElem?_toArray, List.getElem?_cons_zero, List.getElem?_cons_succ]
  repeat (first | (refine seq_skip (by rfl) ?_; try simp only [Act.put, List.setIfInBounds_toArray, List.set_cons_zero, List.set_cons_succ]) | (refine seq_not (by rfl) (by assumption) ?_; try simp only [Act.put, List.setIfInBounds_toArray, List.set_cons_zero, List.set_cons_succ]) | (refine seq_take (v := ?_) (by rfl) ?_ ?_; rotate_left; (focus ((intro w hSw; (try dsimp only at hSw); go_simp; (try with_reducible rfl)); done)); try simp only [Act.put, List.setIfInBounds_toArray, List.set_cons_zero, List.set_cons_succ]))
  refine seq_done ?_
  clear hHeld
  go_wp2
  go_ret
  exact ⟨rfl, HL5.out.drew, HK5.out.drew⟩
theorem rh_far (r : Nat) (me l q a b : Int) (w : World) (h : Rl w r me l q) (h1 : 0 ≤ a) (h2 : a ≤ 63) (hm : a ≠ me) (hq : (a == q) = false) (hb : b = 63) :
    Calls Try.prog 15 #[.pointer (some ⟨r, 0, none⟩), .int .i64 a, .int .i64 b] w fun e w' => e = .returned (.bool false) ∧ Rl w' r me (l) (q) ∧ Kp (fun k => k = r) w w' := by
  subst hb
  have hn1 : (l != l) = false := by simp
  have hn2 : (q != q) = false := by simp
  have hm2 : (a == me) = false := by simpa using hm
  have hrb : r < w.heap.size := h.lt
  have hrw : ¬ r = w.heap.size := by omega
  have hwr2 : ¬ w.heap.size = r := by omega
  have c0 : w.cell? ⟨r, 0, none⟩ = some (.int .i64 me) := h.cell 0
  have c1 : w.cell? ⟨r, 1, none⟩ = some (.int .i64 l) := h.cell 1
  have c2 : w.cell? ⟨r, 2, none⟩ = some (.int .i64 q) := h.cell 2
  have H := Lib.hid h
  have HA := Lib.hid (Blk.alloc h (.cells #[.int .i64 me, .int .i64 l, .int .i64 q] 44))
  have d1 : (w.alloc (.cells #[.int .i64 me, .int .i64 l, .int .i64 q] 44)).cell? ⟨r, 1, none⟩ = some (.int .i64 l) := HA.out.cell 1
  have d2 : (w.alloc (.cells #[.int .i64 me, .int .i64 l, .int .i64 q] 44)).cell? ⟨r, 2, none⟩ = some (.int .i64 q) := HA.out.cell 2
  have f1 := HA.out.frozen 1
  have f2 := HA.out.frozen 2
  have g1 := h.frozen 1
  have g2 := h.frozen 2
  clear h hm
  go_enter Try.func15, Try.ntmps15
  go_wp2
  have HL5 := Lib.hid (Blk.alloc (H.out) (.cells #[.int .i64 me, .int .i64 l, .int .i64 q] 44))
  have HX5 := Lib.hid (Blk.new w 44 #[.int .i64 me, .int .i64 l, .int .i64 q])
  have HK5 := Lib.hid (Kp.alloc (Kp.refl (fun k => k = r) w) (.cells #[.int .i64 me, .int .i64 l, .int .i64 q] 44))
  clear c0 c1 c2 d1 d2 f1 f2 g1 g2
  refine wp_region_seq [(0, true), (1, true), (2, true), (3, true), (4, true), (5, true), (6, true), (7, true), (8, true), (9, true), (10, true), (11, true), (12, true), (13, true), (14, true), (15, true), (16, true)] (fun w' => w'.cell? ⟨w.heap.size, 1, none⟩ = some (.int .i64 l) ∧ w'.cell? ⟨w.heap.size, 2, none⟩ = some (.int .i64 q) ∧ w'.cell? ⟨r, 1, none⟩ = some (.int .i64 (l)) ∧ w'.cell? ⟨r, 2, none⟩ = some (.int .i64 (q))) (by kernel_rfl) (by kernel_rfl) ⟨HX5.out.drew.cell 1, HX5.out.drew.cell 2, HL5.out.drew.cell 1, HL5.out.drew.cell 2⟩ (fun hHeld => ?_)
  simp only [List.map_cons, List.map_nil, List.getElem?_toArray, List.getElem?_cons_zero, List.getElem?_cons_succ]
  repeat (first | (refine seq_skip (by rfl) ?_; try simp only [Act.put, List.setIfInBounds_toArray, List.set_cons_zero, List.set_cons_succ]) | (refine seq_not (by rfl) (by assumption) ?_; try simp only [Act.put, List.setIfInBounds_toArray, List.set_cons_zero, List.set_cons_succ]) | (refine seq_take (v := ?_) (by rfl) ?_ ?_; rotate_left; (focus ((intro w hSw; (try dsimp only at hSw); go_simp; (try with_reducible rfl)); done)); try simp only [Act.put, List.setIfInBounds_toArray, List.set_cons_zero, List.set_cons_succ]))
  refine seq_done ?_
  clear hHeld
  go_wp2
  go_ret
  exact ⟨rfl, HL5.out.drew, HK5.out.drew⟩
theorem rh_near (r : Nat) (me l q a b : Int) (w : World) (h : Rl w r me l q) (h1 : 0 ≤ a) (h2 : a ≤ 63) (hm : a ≠ me) (hq : (a == q) = false) (h3 : 0 ≤ b) (hb : b < 63) (hl : 0 ≤ l) (hlb : l ≤ b + 1) :
    Calls Try.prog 15 #[.pointer (some ⟨r, 0, none⟩), .int .i64 a, .int .i64 b] w fun e w' => e = .returned (.bool false) ∧ Rl w' r me (l) (q) ∧ Kp (fun k => k = r) w w' := by
  have hld : decide (l < 0) = false := decide_eq_false (by omega)
  have hlc : decide (b + 1 < l) = false := decide_eq_false (by omega)
  have hn1 : (l != l) = false := by simp
  have hn2 : (q != q) = false := by simp
  have hm2 : (a == me) = false := by simpa using hm
  have hrb : r < w.heap.size := h.lt
  have hrw : ¬ r = w.heap.size := by omega
  have hwr2 : ¬ w.heap.size = r := by omega
  have c0 : w.cell? ⟨r, 0, none⟩ = some (.int .i64 me) := h.cell 0
  have c1 : w.cell? ⟨r, 1, none⟩ = some (.int .i64 l) := h.cell 1
  have c2 : w.cell? ⟨r, 2, none⟩ = some (.int .i64 q) := h.cell 2
  have H := Lib.hid h
  have HA := Lib.hid (Blk.alloc h (.cells #[.int .i64 me, .int .i64 l, .int .i64 q] 44))
  have d1 : (w.alloc (.cells #[.int .i64 me, .int .i64 l, .int .i64 q] 44)).cell? ⟨r, 1, none⟩ = some (.int .i64 l) := HA.out.cell 1
  have d2 : (w.alloc (.cells #[.int .i64 me, .int .i64 l, .int .i64 q] 44)).cell? ⟨r, 2, none⟩ = some (.int .i64 q) := HA.out.cell 2
  have f1 := HA.out.frozen 1
  have f2 := HA.out.frozen 2
  have g1 := h.frozen 1
  have g2 := h.frozen 2
  clear h hm
  go_enter Try.func15, Try.ntmps15
  go_wp2
  have HL5 := Lib.hid (Blk.alloc (H.out) (.cells #[.int .i64 me, .int .i64 l, .int .i64 q] 44))
  have HX5 := Lib.hid (Blk.new w 44 #[.int .i64 me, .int .i64 l, .int .i64 q])
  have HK5 := Lib.hid (Kp.alloc (Kp.refl (fun k => k = r) w) (.cells #[.int .i64 me, .int .i64 l, .int .i64 q] 44))
  clear c0 c1 c2 d1 d2 f1 f2 g1 g2
  refine wp_region_seq [(0, true), (1, true), (2, true), (3, true), (4, true), (5, true), (6, true), (7, true), (8, true), (9, true), (10, true), (11, true), (12, true), (13, true), (14, true), (15, true), (16, true)] (fun w' => w'.cell? ⟨w.heap.size, 1, none⟩ = some (.int .i64 l) ∧ w'.cell? ⟨w.heap.size, 2, none⟩ = some (.int .i64 q) ∧ w'.cell? ⟨r, 1, none⟩ = some (.int .i64 (l)) ∧ w'.cell? ⟨r, 2, none⟩ = some (.int .i64 (q))) (by kernel_rfl) (by kernel_rfl) ⟨HX5.out.drew.cell 1, HX5.out.drew.cell 2, HL5.out.drew.cell 1, HL5.out.drew.cell 2⟩ (fun hHeld => ?_)
  simp only [List.map_cons, List.map_nil, List.getElem?_toArray, List.getElem?_cons_zero, List.getElem?_cons_succ]
  repeat (first | (refine seq_skip (by rfl) ?_; try simp only [Act.put, List.setIfInBounds_toArray, List.set_cons_zero, List.set_cons_succ]) | (refine seq_not (by rfl) (by assumption) ?_; try simp only [Act.put, List.setIfInBounds_toArray, List.set_cons_zero, List.set_cons_succ]) | (refine seq_take (v := ?_) (by rfl) ?_ ?_; rotate_left; (focus ((intro w hSw; (try dsimp only at hSw); go_simp; (try with_reducible rfl)); done)); try simp only [Act.put, List.setIfInBounds_toArray, List.set_cons_zero, List.set_cons_succ]))
  refine seq_done ?_
  clear hHeld
  go_wp2
  go_ret
  exact ⟨rfl, HL5.out.drew, HK5.out.drew⟩
theorem rh_first (r : Nat) (me l q a b : Int) (w : World) (h : Rl w r me l q) (h1 : 0 ≤ a) (h2 : a ≤ 63) (hm : a ≠ me) (hq : (a == q) = false) (h3 : 0 ≤ b) (hb : b < 63) (hl : l < 0) (hn : (b + 1 != l) = true) :
    Calls Try.prog 15 #[.pointer (some ⟨r, 0, none⟩), .int .i64 a, .int .i64 b] w fun e w' => e = .returned (.bool true) ∧ Rl w' r me (b + 1) (a) ∧ Kp (fun k => k = r) w w' := by
  have hld : decide (l < 0) = true := decide_eq_true (by omega)
  have hm2 : (a == me) = false := by simpa using hm
  have hrb : r < w.heap.size := h.lt
  have hrw : ¬ r = w.heap.size := by omega
  have hwr2 : ¬ w.heap.size = r := by omega
  have c0 : w.cell? ⟨r, 0, none⟩ = some (.int .i64 me) := h.cell 0
  have c1 : w.cell? ⟨r, 1, none⟩ = some (.int .i64 l) := h.cell 1
  have c2 : w.cell? ⟨r, 2, none⟩ = some (.int .i64 q) := h.cell 2
  have H := Lib.hid h
  have HA := Lib.hid (Blk.alloc h (.cells #[.int .i64 me, .int .i64 l, .int .i64 q] 44))
  have d1 : (w.alloc (.cells #[.int .i64 me, .int .i64 l, .int .i64 q] 44)).cell? ⟨r, 1, none⟩ = some (.int .i64 l) := HA.out.cell 1
  have d2 : (w.alloc (.cells #[.int .i64 me, .int .i64 l, .int .i64 q] 44)).cell? ⟨r, 2, none⟩ = some (.int .i64 q) := HA.out.cell 2
  have f1 := HA.out.frozen 1
  have f2 := HA.out.frozen 2
  have g1 := h.frozen 1
  have g2 := h.frozen 2
  clear h hm
  go_enter Try.func15, Try.ntmps15
  go_wp2
  have HL5 := Lib.hid (Blk.alloc (((H.out).set_ 1 (.int .i64 (b + 1))).set_ 2 (.int .i64 (a))) (.cells #[.int .i64 me, .int .i64 l, .int .i64 q] 44))
  have HX5 := Lib.hid (new_at (W := ((w.setCell ⟨r, 1, none⟩ (.int .i64 (b + 1))).setCell ⟨r, 2, none⟩ (.int .i64 (a)))) (n := w.heap.size) (by simp [World.setCell]) 44 #[.int .i64 me, .int .i64 l, .int .i64 q])
  have HK5 := Lib.hid (Kp.alloc (((Kp.refl (fun k => k = r) w).set_ ⟨r, 1, none⟩ (.inl rfl) (.int .i64 (b + 1))).set_ ⟨r, 2, none⟩ (.inl rfl) (.int .i64 (a))) (.cells #[.int .i64 me, .int .i64 l, .int .i64 q] 44))
  clear c0 c1 c2 d1 d2 f1 f2 g1 g2
  refine wp_region_seq [(0, true), (1, true), (2, true), (3, true), (4, true), (5, true), (6, true), (7, true), (8, true), (9, true), (10, true), (11, true), (12, true), (13, true), (14, true), (15, true), (16, true)] (fun w' => w'.cell? ⟨w.heap.size, 1, none⟩ = some (.int .i64 l) ∧ w'.cell? ⟨w.heap.size, 2, none⟩ = some (.int .i64 q) ∧ w'.cell? ⟨r, 1, none⟩ = some (.int .i64 (b + 1)) ∧ w'.cell? ⟨r, 2, none⟩ = some (.int .i64 (a))) (by kernel_rfl) (by kernel_rfl) ⟨HX5.out.drew.cell 1, HX5.out.drew.cell 2, HL5.out.drew.cell 1, HL5.out.drew.cell 2⟩ (fun hHeld => ?_)
  simp only [List.map_cons, List.map_nil, List.getElem?_toArray, List.getElem?_cons_zero, List.getElem?_cons_succ]
  repeat (first | (refine seq_skip (by rfl) ?_; try simp only [Act.put, List.setIfInBounds_toArray, List.set_cons_zero, List.set_cons_succ]) | (refine seq_not (by rfl) (by assumption) ?_; try simp only [Act.put, List.setIfInBounds_toArray, List.set_cons_zero, List.set_cons_succ]) | (refine seq_take (v := ?_) (by rfl) ?_ ?_; rotate_left; (focus ((intro w hSw; (try dsimp only at hSw); go_simp; (try with_reducible rfl)); done)); try simp only [Act.put, List.setIfInBounds_toArray, List.set_cons_zero, List.set_cons_succ]))
  refine seq_done ?_
  clear hHeld
  go_wp2
  go_ret
  exact ⟨rfl, HL5.out.drew, HK5.out.drew⟩
theorem rh_less (r : Nat) (me l q a b : Int) (w : World) (h : Rl w r me l q) (h1 : 0 ≤ a) (h2 : a ≤ 63) (hm : a ≠ me) (hq : (a == q) = false) (h3 : 0 ≤ b) (hb : b < 63) (hl : 0 ≤ l) (hlb : b + 1 < l) (hn : (b + 1 != l) = true) :
    Calls Try.prog 15 #[.pointer (some ⟨r, 0, none⟩), .int .i64 a, .int .i64 b] w fun e w' => e = .returned (.bool true) ∧ Rl w' r me (b + 1) (a) ∧ Kp (fun k => k = r) w w' := by
  have hld : decide (l < 0) = false := decide_eq_false (by omega)
  have hlc : decide (b + 1 < l) = true := decide_eq_true (by omega)
  have hm2 : (a == me) = false := by simpa using hm
  have hrb : r < w.heap.size := h.lt
  have hrw : ¬ r = w.heap.size := by omega
  have hwr2 : ¬ w.heap.size = r := by omega
  have c0 : w.cell? ⟨r, 0, none⟩ = some (.int .i64 me) := h.cell 0
  have c1 : w.cell? ⟨r, 1, none⟩ = some (.int .i64 l) := h.cell 1
  have c2 : w.cell? ⟨r, 2, none⟩ = some (.int .i64 q) := h.cell 2
  have H := Lib.hid h
  have HA := Lib.hid (Blk.alloc h (.cells #[.int .i64 me, .int .i64 l, .int .i64 q] 44))
  have d1 : (w.alloc (.cells #[.int .i64 me, .int .i64 l, .int .i64 q] 44)).cell? ⟨r, 1, none⟩ = some (.int .i64 l) := HA.out.cell 1
  have d2 : (w.alloc (.cells #[.int .i64 me, .int .i64 l, .int .i64 q] 44)).cell? ⟨r, 2, none⟩ = some (.int .i64 q) := HA.out.cell 2
  have f1 := HA.out.frozen 1
  have f2 := HA.out.frozen 2
  have g1 := h.frozen 1
  have g2 := h.frozen 2
  clear h hm
  go_enter Try.func15, Try.ntmps15
  go_wp2
  have HL5 := Lib.hid (Blk.alloc (((H.out).set_ 1 (.int .i64 (b + 1))).set_ 2 (.int .i64 (a))) (.cells #[.int .i64 me, .int .i64 l, .int .i64 q] 44))
  have HX5 := Lib.hid (new_at (W := ((w.setCell ⟨r, 1, none⟩ (.int .i64 (b + 1))).setCell ⟨r, 2, none⟩ (.int .i64 (a)))) (n := w.heap.size) (by simp [World.setCell]) 44 #[.int .i64 me, .int .i64 l, .int .i64 q])
  have HK5 := Lib.hid (Kp.alloc (((Kp.refl (fun k => k = r) w).set_ ⟨r, 1, none⟩ (.inl rfl) (.int .i64 (b + 1))).set_ ⟨r, 2, none⟩ (.inl rfl) (.int .i64 (a))) (.cells #[.int .i64 me, .int .i64 l, .int .i64 q] 44))
  clear c0 c1 c2 d1 d2 f1 f2 g1 g2
  refine wp_region_seq [(0, true), (1, true), (2, true), (3, true), (4, true), (5, true), (6, true), (7, true), (8, true), (9, true), (10, true), (11, true), (12, true), (13, true), (14, true), (15, true), (16, true)] (fun w' => w'.cell? ⟨w.heap.size, 1, none⟩ = some (.int .i64 l) ∧ w'.cell? ⟨w.heap.size, 2, none⟩ = some (.int .i64 q) ∧ w'.cell? ⟨r, 1, none⟩ = some (.int .i64 (b + 1)) ∧ w'.cell? ⟨r, 2, none⟩ = some (.int .i64 (a))) (by kernel_rfl) (by kernel_rfl) ⟨HX5.out.drew.cell 1, HX5.out.drew.cell 2, HL5.out.drew.cell 1, HL5.out.drew.cell 2⟩ (fun hHeld => ?_)
  simp only [List.map_cons, List.map_nil, List.getElem?_toArray, List.getElem?_cons_zero, List.getElem?_cons_succ]
  repeat (first | (refine seq_skip (by rfl) ?_; try simp only [Act.put, List.setIfInBounds_toArray, List.set_cons_zero, List.set_cons_succ]) | (refine seq_not (by rfl) (by assumption) ?_; try simp only [Act.put, List.setIfInBounds_toArray, List.set_cons_zero, List.set_cons_succ]) | (refine seq_take (v := ?_) (by rfl) ?_ ?_; rotate_left; (focus ((intro w hSw; (try dsimp only at hSw); go_simp; (try with_reducible rfl)); done)); try simp only [Act.put, List.setIfInBounds_toArray, List.set_cons_zero, List.set_cons_succ]))
  refine seq_done ?_
  clear hHeld
  go_wp2
  go_ret
  exact ⟨rfl, HL5.out.drew, HK5.out.drew⟩
theorem hear_lq {me l q a b : Int} (hI : Lq l q) : Lq (hear me l q a b).2.1 (hear me l q a b).2.2 := by
  unfold hear
  by_cases h1 : okFind a b = false ∨ a = me
  · rw [if_pos h1]; exact hI
  rw [if_neg h1]
  have hg : okFind a b = true := by
    have := mt Or.inl h1
    simpa using this
  have hgg := (okFind_iff a b).1 hg
  by_cases h2 : a = q ∧ 63 < b + 1
  · rw [if_pos h2]; exact .inl ⟨rfl, rfl⟩
  rw [if_neg h2]
  by_cases h3 : 63 < b + 1 ∨ (a ≠ q ∧ 0 ≤ l ∧ l ≤ b + 1) ∨ (a = q ∧ b + 1 = l)
  · rw [if_pos h3]; exact hI
  · rw [if_neg h3]
    show Lq (b + 1) a
    exact .inr ⟨by omega, by omega, by omega, by omega⟩
theorem rhear_ok (r : Nat) (me l q a b : Int) (w : World) (h : Rl w r me l q) (hI : Lq l q) :
    Calls Try.prog 15 #[.pointer (some ⟨r, 0, none⟩), .int .i64 a, .int .i64 b] w fun e w' => e = .returned (.bool (hear me l q a b).1) ∧ Rl w' r me (hear me l q a b).2.1 (hear me l q a b).2.2 ∧ Kp (fun k => k = r) w w' := by
  unfold hear
  by_cases h1 : okFind a b = false ∨ a = me
  · rw [if_pos h1]
    refine (rhear_bad r me l q a b w h h1).mono ?_
    rintro e w' ⟨rfl, rfl⟩
    exact ⟨rfl, h, Kp.refl _ _⟩
  rw [if_neg h1]
  have hg : okFind a b = true := by
    have := mt Or.inl h1
    simpa using this
  have hm : a ≠ me := fun e => h1 (.inr e)
  obtain ⟨⟨g1, g2⟩, g3, g4⟩ := (okFind_iff a b).1 hg
  clear h1 hg
  unfold Lq at hI
  by_cases hq : a = q
  · have hq2 : (a == q) = true := by simpa using hq
    by_cases hb : b = 63
    · rw [if_pos ⟨hq, by omega⟩]
      exact rh_lost r me l q a b w h g1 g2 hm hq2 hb (by simp; omega)
    · rw [if_neg (by omega)]
      by_cases hl : b + 1 = l
      · rw [if_pos (.inr (.inr ⟨hq, hl⟩))]
        have := rh_same r me l q a b w h g1 g2 hm hq2 g3 (by omega) (by simp [hl])
        rw [hl] at this
        exact this
      · rw [if_neg (by omega), hq]
        exact hq ▸ rh_keep r me l q a b w h g1 g2 hm hq2 g3 (by omega) (by simp [hl])
  · have hq2 : (a == q) = false := by simpa using hq
    rw [if_neg (fun h => hq h.1)]
    by_cases hb : b = 63
    · rw [if_pos (.inl (by omega))]
      exact rh_far r me l q a b w h g1 g2 hm hq2 hb
    · by_cases hl : 0 ≤ l
      · by_cases hlb : l ≤ b + 1
        · rw [if_pos (.inr (.inl ⟨hq, hl, hlb⟩))]
          exact rh_near r me l q a b w h g1 g2 hm hq2 g3 (by omega) hl hlb
        · rw [if_neg (by omega)]
          exact rh_less r me l q a b w h g1 g2 hm hq2 g3 (by omega) hl (by omega) (by simp; omega)
      · rw [if_neg (by omega)]
        exact rh_first r me l q a b w h g1 g2 hm hq2 g3 (by omega) (by omega) (by simp; omega)
theorem hear_nil (a b : Int) (w : World) :
    Calls Try.prog 9 #[.pointer none, .agg #[.int .i64 a, .int .i64 b]] w fun e w' => e = .returned (.bool false) ∧ Below w.heap.size w w' := by
  have HB := Lib.hid ((Below.refl _ w).alloc (Nat.le_refl _) (.cells #[.int .i64 a, .int .i64 b] 30))
  go_enter Try.func9, Try.ntmps9
  go_wp2
  refine wp_region_seq [(0, true), (1, true), (2, true), (3, true), (4, true), (5, false), (6, true), (7, true), (8, true), (9, true), (10, true), (11, true), (12, true), (13, true), (14, true), (15, true), (16, true)] (fun w' => True) (by kernel_rfl) (by kernel_rfl) trivial (fun hHeld => ?_)
  simp only [List.map_cons, List.map_nil, List.getElem?_toArray, List.getElem?_cons_zero, List.getElem?_cons_succ]
  repeat (first | (refine seq_skip (by rfl) ?_; try simp only [Act.put, List.setIfInBounds_toArray, List.set_cons_zero, List.set_cons_succ]) | (refine seq_not (by rfl) (by assumption) ?_; try simp only [Act.put, List.setIfInBounds_toArray, List.set_cons_zero, List.set_cons_succ]) | (refine seq_take (v := ?_) (by rfl) ?_ ?_; rotate_left; (focus ((intro w hSw; (try dsimp only at hSw); go_simp; (try with_reducible rfl)); done)); try simp only [Act.put, List.setIfInBounds_toArray, List.set_cons_zero, List.set_cons_succ]))
  refine seq_done ?_
  go_wp2
  go_ret
  exact ⟨rfl, below_drew_ HB.out⟩
theorem alive_ok (w : World) : Calls Try.prog 6 #[] w fun e w' => e = .returned (.bool true) ∧ Below w.heap.size w w' := by
  go_enter Try.func6, Try.ntmps6
  go_wp2_with fail
  refine (new_ok 9 _ (by omega) (by omega)).mono ?_
  rintro e w1 ⟨rfl, rfl⟩
  have hl : Lv (w.alloc (.cells #[.int .i64 9, .int .i64 (-1), .int .i64 (-1)] 47)) w.heap.size 9 (-1) (-1) := Blk.new _ _ _
  have hb : Below w.heap.size w (w.alloc (.cells #[.int .i64 9, .int .i64 (-1), .int .i64 (-1)] 47)) := (Below.refl _ _).alloc (Nat.le_refl _) _
  generalize w.alloc (.cells #[.int .i64 9, .int .i64 (-1), .int .i64 (-1)] 47) = w1 at hl hb
  have HL := Lib.hid hl
  have HB := Lib.hid hb
  clear hl hb
  have C1 := Lib.hid (hear_ok w.heap.size 9 (-1) (-1) 3 1 w1 HL.out)
  rw [show hear 9 (-1) (-1) 3 1 = (true, 2, 3) by decide] at C1
  go_wp2_with fail
  refine C1.out.mono ?_
  rintro e w2 ⟨rfl, hl, hk⟩
  have HL2 := Lib.hid hl
  have HB2 := Lib.hid (below_kp HB.out HB.out.size hk (fun k hk => by omega))
  clear hl hk
  go_wp2_with fail
  refine (level_ok w.heap.size 9 2 3 _ HL2.out).mono ?_
  rintro e w3 ⟨rfl, rfl⟩
  go_wp2_with fail
  refine (parent_ok w.heap.size 9 2 3 _ HL2.out).mono ?_
  rintro e w3 ⟨rfl, rfl⟩
  have C2 := Lib.hid (hear_ok w.heap.size 9 2 3 4 0 w2 HL2.out)
  rw [show hear 9 2 3 4 0 = (true, 1, 4) by decide] at C2
  go_wp2_with fail
  refine C2.out.mono ?_
  rintro e w3 ⟨rfl, hl, hk⟩
  have HL3 := Lib.hid hl
  have HB3 := Lib.hid (below_kp HB2.out HB2.out.size hk (fun k hk => by omega))
  clear hl hk
  go_wp2_with (first | (go_at_call 8; refine (level_ok w.heap.size 9 1 4 _ HL3.out).mono ?_; rintro e w' ⟨rfl, rfl⟩) | (go_at_call 10; refine (parent_ok w.heap.size 9 1 4 _ HL3.out).mono ?_; rintro e w' ⟨rfl, rfl⟩))
  go_ret
  exact ⟨rfl, HB3.out⟩
end Go.Proofs.Yteeeolagnndcaac.Lev
