/- The walks of level's functions. -/
import Derived.Test.YteeeolagnndcaacFrm
import Derived.Deep.RegionHeld3
namespace Go.Proofs.Yteeeolagnndcaac.Lev
open Go.RowKit Go.Proofs.Yteeeolagnndcaac.Bk Go.Proofs.Yteeeolagnndcaac.Rw Go.Proofs.Yteeeolagnndcaac.Ow Go.Proofs.Yteeeolagnndcaac.Kp Go.Proofs.Yteeeolagnndcaac.Sq Go.Proofs.Yteeeolagnndcaac.Frm

/-- A node's level at block p. -/
abbrev Lv (w : World) (p : Nat) (me l q : Int) : Prop := Blk w p 47 #[.int .i64 me, .int .i64 l, .int .i64 q]

theorem new_ok (me : Int) (w : World) (h0 : 0 ≤ me) (h1 : me ≤ 63) :
    Calls Try.prog 7 #[.int .i64 me] w fun e w' => e = .returned (.tuple #[.pointer (some ⟨w.heap.size, 0, none⟩), .int .i64 0]) ∧ w' = w.alloc (.cells #[.int .i64 me, .int .i64 (-1), .int .i64 (-1)] 47) := by
  go_enter Try.func7, Try.ntmps7
  go_wp2
  go_ret2
  exact ⟨rfl, rfl⟩
theorem new_no (me : Int) (w : World) (h : me < 0 ∨ 63 < me) :
    Calls Try.prog 7 #[.int .i64 me] w fun e w' => e = .returned (.tuple #[.pointer none, .int .i64 1]) ∧ w = w' := by
  by_cases h0 : me < 0
  · clear h
    go_enter Try.func7, Try.ntmps7
    go_wp2
    go_ret2
    exact ⟨rfl, rfl⟩
  · have h2 : 63 < me := by omega
    clear h
    go_enter Try.func7, Try.ntmps7
    go_wp2
    go_ret2
    exact ⟨rfl, rfl⟩
theorem level_ok (p : Nat) (me l q : Int) (w : World) (h : Lv w p me l q) : Calls Try.prog 8 #[.pointer (some ⟨p, 0, none⟩)] w fun e w' => e = .returned (.int .i64 l) ∧ w = w' := by
  have c1 : w.cell? ⟨p, 1, none⟩ = some (.int .i64 l) := h.cell 1
  clear h
  go_enter Try.func8, Try.ntmps8
  go_wp2
  go_ret
  exact ⟨rfl, rfl⟩
theorem level_nil (w : World) : Calls Try.prog 8 #[.pointer none] w fun e w' => e = .returned (.int .i64 (-1)) ∧ w = w' := by
  go_enter Try.func8, Try.ntmps8
  go_wp2
  go_ret
  exact ⟨rfl, rfl⟩
theorem parent_ok (p : Nat) (me l q : Int) (w : World) (h : Lv w p me l q) : Calls Try.prog 10 #[.pointer (some ⟨p, 0, none⟩)] w fun e w' => e = .returned (.int .i64 q) ∧ w = w' := by
  have c1 : w.cell? ⟨p, 2, none⟩ = some (.int .i64 q) := h.cell 2
  clear h
  go_enter Try.func10, Try.ntmps10
  go_wp2
  go_ret
  exact ⟨rfl, rfl⟩
theorem parent_nil (w : World) : Calls Try.prog 10 #[.pointer none] w fun e w' => e = .returned (.int .i64 (-1)) ∧ w = w' := by
  go_enter Try.func10, Try.ntmps10
  go_wp2
  go_ret
  exact ⟨rfl, rfl⟩
theorem lose_ok (p : Nat) (me l q : Int) (w : World) (h : Lv w p me l q) : Calls Try.prog 12 #[.pointer (some ⟨p, 0, none⟩)] w fun e w' => e = .returned (.tuple #[]) ∧ Lv w' p me (-1) (-1) ∧ Kp (fun k => k = p) w w' := by
  have c1 : w.cell? ⟨p, 1, none⟩ = some (.int .i64 l) := h.cell 1
  have c2 : w.cell? ⟨p, 2, none⟩ = some (.int .i64 q) := h.cell 2
  have f1 := h.frozen 1
  have f2 := h.frozen 2
  have H := Lib.hid h
  clear h
  go_enter Try.func12, Try.ntmps12
  go_wp2
  go_end0
  exact ⟨rfl, (H.out.set_ 1 (.int .i64 (-1))).set_ 2 (.int .i64 (-1)), ((Kp.refl (fun k => k = p) w).set_ ⟨p, 1, none⟩ (.inl rfl) _).set_ ⟨p, 2, none⟩ (.inl rfl) _⟩
theorem lose_nil (w : World) : Calls Try.prog 12 #[.pointer none] w fun e w' => e = .returned (.tuple #[]) ∧ w = w' := by
  go_enter Try.func12, Try.ntmps12
  go_wp2
  go_end0
  exact ⟨rfl, rfl⟩

/-- Whether a word can be. -/
def okFind (a b : Int) : Bool := ([⟨1, a, 63⟩, ⟨1, b, 63⟩] : List Fld).all Fld.ok
theorem okFind_iff (a b : Int) : okFind a b = true ↔ (0 ≤ a ∧ a ≤ 63) ∧ 0 ≤ b ∧ b ≤ 63 := by
  simp [okFind, Fld.ok]
def hear (me l q a b : Int) : Bool × Int × Int :=
  if okFind a b = false ∨ a = me then (false, l, q)
  else if a = q ∧ 63 < b + 1 then (true, -1, -1)
  else if 63 < b + 1 ∨ (a ≠ q ∧ 0 ≤ l ∧ l ≤ b + 1) ∨ (a = q ∧ b + 1 = l) then (false, l, q)
  else (true, b + 1, a)

theorem hear_bad (p : Nat) (me l q a b : Int) (w : World) (h : Lv w p me l q) (hg : okFind a b = false) :
    Calls Try.prog 9 #[.pointer (some ⟨p, 0, none⟩), .agg #[.int .i64 a, .int .i64 b]] w fun e w' => e = .returned (.bool false) ∧ Below w.heap.size w w' := by
  have hb : Below w.heap.size w (w.alloc (.cells #[.int .i64 a, .int .i64 b] 30)) := (Below.refl _ w).alloc (Nat.le_refl _) _
  have hx : Blk (w.alloc (.cells #[.int .i64 a, .int .i64 b] 30)) w.heap.size 30 #[.int .i64 a, .int .i64 b] := Blk.new w _ _
  have hl : Blk (w.alloc (.cells #[.int .i64 a, .int .i64 b] 30)) p 47 #[.int .i64 me, .int .i64 l, .int .i64 q] := h.alloc _
  have HB := Lib.hid hb
  have HX := Lib.hid hx
  have HL := Lib.hid hl
  have hpb : p < w.heap.size := h.lt
  have hG := fun w => good_find a b w
  rw [show ([⟨1, a, 63⟩, ⟨1, b, 63⟩] : List Fld).all Fld.ok = false from hg] at hG
  have HG := Lib.hid hG
  clear hb hx hl h hg hG
  go_enter Try.func9, Try.ntmps9
  go_wp2
  generalize hw1 : w.alloc (.cells #[.int .i64 a, .int .i64 b] 30) = w1 at HB HX HL ⊢
  clear hw1
  refine wp_region_seq [(0, true), (1, true), (2, true), (3, true), (4, true), (5, false), (6, true), (7, true), (8, true), (9, true), (10, true), (11, true), (12, true), (13, true), (14, true), (15, true), (16, true)] (fun w' => w'.cell? ⟨w.heap.size, 0, none⟩ = some (.int .i64 a) ∧ w'.cell? ⟨w.heap.size, 1, none⟩ = some (.int .i64 b) ∧ w'.cell? ⟨p, 0, none⟩ = some (.int .i64 me)) (by kernel_rfl) (by kernel_rfl) ⟨HX.out.drew.cell 0, HX.out.drew.cell 1, HL.out.drew.cell 0⟩ (fun hHeld => ?_)
  simp only [List.map_cons, List.map_nil, List.getElem?_toArray, List.getElem?_cons_zero, List.getElem?_cons_succ]
  repeat (first | (refine seq_skip (by rfl) ?_; try simp only [Act.put, List.setIfInBounds_toArray, List.set_cons_zero, List.set_cons_succ]) | (refine seq_not (by rfl) (by assumption) ?_; try simp only [Act.put, List.setIfInBounds_toArray, List.set_cons_zero, List.set_cons_succ]) | (refine seq_take (v := ?_) (by rfl) ?_ ?_; rotate_left; (focus ((intro w hSw; (try dsimp only at hSw); go_simp; (try with_reducible rfl)); done)); try simp only [Act.put, List.setIfInBounds_toArray, List.set_cons_zero, List.set_cons_succ]))
  refine seq_do (fun K hK => ?_)
  go_simp
  go_at_call 11
  with_reducible refine Calls.mono (HG.out _) ?_
  rintro e w2 ⟨rfl, hb⟩
  have HX2 := Lib.hid (HX.out.drew.keeps hb)
  have HL2 := Lib.hid (HL.out.drew.keeps hb)
  dsimp only
  refine hK.out _ _ ⟨HX2.out.cell 0, HX2.out.cell 1, HL2.out.cell 0⟩ (fun hHeld => ?_)
  clear hK K
  have HB2 := Lib.hid ((below_drew_ HB.out).trans (hb.mono HB.out.size))
  clear hb hHeld
  have hHeld : w2.cell? ⟨w.heap.size, 0, none⟩ = some (.int .i64 a) ∧ w2.cell? ⟨w.heap.size, 1, none⟩ = some (.int .i64 b) ∧ w2.cell? ⟨p, 0, none⟩ = some (.int .i64 me) := ⟨HX2.out.cell 0, HX2.out.cell 1, HL2.out.cell 0⟩
  repeat (first | (refine seq_skip (by rfl) ?_; try simp only [Act.put, List.setIfInBounds_toArray, List.set_cons_zero, List.set_cons_succ]) | (refine seq_not (by rfl) (by assumption) ?_; try simp only [Act.put, List.setIfInBounds_toArray, List.set_cons_zero, List.set_cons_succ]) | (refine seq_take (v := ?_) (by rfl) ?_ ?_; rotate_left; (focus ((intro w hSw; (try dsimp only at hSw); go_simp; (try with_reducible rfl)); done)); try simp only [Act.put, List.setIfInBounds_toArray, List.set_cons_zero, List.set_cons_succ]))
  refine seq_done ?_
  go_wp2
  go_ret
  exact ⟨rfl, HB2.out⟩
theorem hear_self (p : Nat) (l q a b : Int) (w : World) (h : Lv w p a l q) (hg : okFind a b = true) :
    Calls Try.prog 9 #[.pointer (some ⟨p, 0, none⟩), .agg #[.int .i64 a, .int .i64 b]] w fun e w' => e = .returned (.bool false) ∧ Below w.heap.size w w' := by
  obtain ⟨me, hme⟩ : ∃ me, a = me := ⟨_, rfl⟩
  have hme2 : (a == me) = true := by simpa using hme
  have h : Lv w p me l q := hme ▸ h
  clear hme
  have hb : Below w.heap.size w (w.alloc (.cells #[.int .i64 a, .int .i64 b] 30)) := (Below.refl _ w).alloc (Nat.le_refl _) _
  have hx : Blk (w.alloc (.cells #[.int .i64 a, .int .i64 b] 30)) w.heap.size 30 #[.int .i64 a, .int .i64 b] := Blk.new w _ _
  have hl : Blk (w.alloc (.cells #[.int .i64 a, .int .i64 b] 30)) p 47 #[.int .i64 me, .int .i64 l, .int .i64 q] := h.alloc _
  have HB := Lib.hid hb
  have HX := Lib.hid hx
  have HL := Lib.hid hl
  have hpb : p < w.heap.size := h.lt
  have hG := fun w => good_find a b w
  rw [show ([⟨1, a, 63⟩, ⟨1, b, 63⟩] : List Fld).all Fld.ok = true from hg] at hG
  have HG := Lib.hid hG
  clear hb hx hl h hg hG
  go_enter Try.func9, Try.ntmps9
  go_wp2
  generalize hw1 : w.alloc (.cells #[.int .i64 a, .int .i64 b] 30) = w1 at HB HX HL ⊢
  clear hw1
  refine wp_region_seq [(0, true), (1, true), (2, true), (3, true), (4, true), (5, false), (6, true), (7, true), (8, true), (9, true), (10, true), (11, true), (12, true), (13, true), (14, true), (15, true), (16, true)] (fun w' => w'.cell? ⟨w.heap.size, 0, none⟩ = some (.int .i64 a) ∧ w'.cell? ⟨w.heap.size, 1, none⟩ = some (.int .i64 b) ∧ w'.cell? ⟨p, 0, none⟩ = some (.int .i64 me)) (by kernel_rfl) (by kernel_rfl) ⟨HX.out.drew.cell 0, HX.out.drew.cell 1, HL.out.drew.cell 0⟩ (fun hHeld => ?_)
  simp only [List.map_cons, List.map_nil, List.getElem?_toArray, List.getElem?_cons_zero, List.getElem?_cons_succ]
  repeat (first | (refine seq_skip (by rfl) ?_; try simp only [Act.put, List.setIfInBounds_toArray, List.set_cons_zero, List.set_cons_succ]) | (refine seq_not (by rfl) (by assumption) ?_; try simp only [Act.put, List.setIfInBounds_toArray, List.set_cons_zero, List.set_cons_succ]) | (refine seq_take (v := ?_) (by rfl) ?_ ?_; rotate_left; (focus ((intro w hSw; (try dsimp only at hSw); go_simp; (try with_reducible rfl)); done)); try simp only [Act.put, List.setIfInBounds_toArray, List.set_cons_zero, List.set_cons_succ]))
  refine seq_do (fun K hK => ?_)
  go_simp
  go_at_call 11
  with_reducible refine Calls.mono (HG.out _) ?_
  rintro e w2 ⟨rfl, hb⟩
  have HX2 := Lib.hid (HX.out.drew.keeps hb)
  have HL2 := Lib.hid (HL.out.drew.keeps hb)
  dsimp only
  refine hK.out _ _ ⟨HX2.out.cell 0, HX2.out.cell 1, HL2.out.cell 0⟩ (fun hHeld => ?_)
  clear hK K
  have HB2 := Lib.hid ((below_drew_ HB.out).trans (hb.mono HB.out.size))
  clear hb hHeld
  have hHeld : w2.cell? ⟨w.heap.size, 0, none⟩ = some (.int .i64 a) ∧ w2.cell? ⟨w.heap.size, 1, none⟩ = some (.int .i64 b) ∧ w2.cell? ⟨p, 0, none⟩ = some (.int .i64 me) := ⟨HX2.out.cell 0, HX2.out.cell 1, HL2.out.cell 0⟩
  repeat (first | (refine seq_skip (by rfl) ?_; try simp only [Act.put, List.setIfInBounds_toArray, List.set_cons_zero, List.set_cons_succ]) | (refine seq_not (by rfl) (by assumption) ?_; try simp only [Act.put, List.setIfInBounds_toArray, List.set_cons_zero, List.set_cons_succ]) | (refine seq_take (v := ?_) (by rfl) ?_ ?_; rotate_left; (focus ((intro w hSw; (try dsimp only at hSw); go_simp; (try with_reducible rfl)); done)); try simp only [Act.put, List.setIfInBounds_toArray, List.set_cons_zero, List.set_cons_succ]))
  refine seq_done ?_
  go_wp2
  go_ret
  exact ⟨rfl, HB2.out⟩
theorem hear_lost (p : Nat) (me l q a b : Int) (w : World) (h : Lv w p me l q) (hg : okFind a b = true) (hm : (a == me) = false) (hq : (a == q) = true) (hb63 : 63 < b + 1) (hb64 : b ≤ 1000) :
    Calls Try.prog 9 #[.pointer (some ⟨p, 0, none⟩), .agg #[.int .i64 a, .int .i64 b]] w fun e w' => e = .returned (.bool true) ∧ Lv w' p me (-1) (-1) ∧ Kp (fun k => k = p) w w' := by
  have hbd : decide (63 < b + 1) = true := decide_eq_true hb63
  have hwr : IntKind.i64.wrap (b + 1) = b + 1 := IntWalk.i64_in _ (by omega)
  have hb : Below w.heap.size w (w.alloc (.cells #[.int .i64 a, .int .i64 b] 30)) := (Below.refl _ w).alloc (Nat.le_refl _) _
  have hx : Blk (w.alloc (.cells #[.int .i64 a, .int .i64 b] 30)) w.heap.size 30 #[.int .i64 a, .int .i64 b] := Blk.new w _ _
  have hl : Blk (w.alloc (.cells #[.int .i64 a, .int .i64 b] 30)) p 47 #[.int .i64 me, .int .i64 l, .int .i64 q] := h.alloc _
  have HB := Lib.hid hb
  have HX := Lib.hid hx
  have HL := Lib.hid hl
  have hpb : p < w.heap.size := h.lt
  have hG := fun w => good_find a b w
  rw [show ([⟨1, a, 63⟩, ⟨1, b, 63⟩] : List Fld).all Fld.ok = true from hg] at hG
  have HG := Lib.hid hG
  clear hb hx hl h hg hG
  go_enter Try.func9, Try.ntmps9
  go_wp2
  generalize hw1 : w.alloc (.cells #[.int .i64 a, .int .i64 b] 30) = w1 at HB HX HL ⊢
  clear hw1
  refine wp_region_seq [(0, true), (1, true), (2, true), (3, true), (4, true), (5, false), (6, true), (7, true), (8, true), (9, true), (10, true), (11, true), (12, true), (13, true), (14, true), (15, true), (16, true)] (fun w' => w'.cell? ⟨w.heap.size, 0, none⟩ = some (.int .i64 a) ∧ w'.cell? ⟨w.heap.size, 1, none⟩ = some (.int .i64 b) ∧ w'.cell? ⟨p, 0, none⟩ = some (.int .i64 me)) (by kernel_rfl) (by kernel_rfl) ⟨HX.out.drew.cell 0, HX.out.drew.cell 1, HL.out.drew.cell 0⟩ (fun hHeld => ?_)
  simp only [List.map_cons, List.map_nil, List.getElem?_toArray, List.getElem?_cons_zero, List.getElem?_cons_succ]
  repeat (first | (refine seq_skip (by rfl) ?_; try simp only [Act.put, List.setIfInBounds_toArray, List.set_cons_zero, List.set_cons_succ]) | (refine seq_not (by rfl) (by assumption) ?_; try simp only [Act.put, List.setIfInBounds_toArray, List.set_cons_zero, List.set_cons_succ]) | (refine seq_take (v := ?_) (by rfl) ?_ ?_; rotate_left; (focus ((intro w hSw; (try dsimp only at hSw); go_simp; (try with_reducible rfl)); done)); try simp only [Act.put, List.setIfInBounds_toArray, List.set_cons_zero, List.set_cons_succ]))
  refine seq_do (fun K hK => ?_)
  go_simp
  go_at_call 11
  with_reducible refine Calls.mono (HG.out _) ?_
  rintro e w2 ⟨rfl, hb⟩
  have HX2 := Lib.hid (HX.out.drew.keeps hb)
  have HL2 := Lib.hid (HL.out.drew.keeps hb)
  dsimp only
  refine hK.out _ _ ⟨HX2.out.cell 0, HX2.out.cell 1, HL2.out.cell 0⟩ (fun hHeld => ?_)
  clear hK K
  have HB2 := Lib.hid ((below_drew_ HB.out).trans (hb.mono HB.out.size))
  clear hb hHeld
  have hHeld : w2.cell? ⟨w.heap.size, 0, none⟩ = some (.int .i64 a) ∧ w2.cell? ⟨w.heap.size, 1, none⟩ = some (.int .i64 b) ∧ w2.cell? ⟨p, 0, none⟩ = some (.int .i64 me) := ⟨HX2.out.cell 0, HX2.out.cell 1, HL2.out.cell 0⟩
  repeat (first | (refine seq_skip (by rfl) ?_; try simp only [Act.put, List.setIfInBounds_toArray, List.set_cons_zero, List.set_cons_succ]) | (refine seq_not (by rfl) (by assumption) ?_; try simp only [Act.put, List.setIfInBounds_toArray, List.set_cons_zero, List.set_cons_succ]) | (refine seq_take (v := ?_) (by rfl) ?_ ?_; rotate_left; (focus ((intro w hSw; (try dsimp only at hSw); go_simp; (try with_reducible rfl)); done)); try simp only [Act.put, List.setIfInBounds_toArray, List.set_cons_zero, List.set_cons_succ]))
  refine seq_done ?_
  clear hHeld
  have y0 : w2.cell? ⟨w.heap.size, 0, none⟩ = some (.int .i64 a) := HX2.out.cell 0
  have y1 : w2.cell? ⟨w.heap.size, 1, none⟩ = some (.int .i64 b) := HX2.out.cell 1
  have z0 : w2.cell? ⟨p, 0, none⟩ = some (.int .i64 me) := HL2.out.cell 0
  have z1 : w2.cell? ⟨p, 1, none⟩ = some (.int .i64 l) := HL2.out.cell 1
  have z2 : w2.cell? ⟨p, 2, none⟩ = some (.int .i64 q) := HL2.out.cell 2
  go_wp2
  clear y0 y1 z0 z1 z2
  refine wp_region_seq [(0, true), (1, true), (2, true), (3, true), (4, true), (5, true), (6, true), (7, true), (8, true), (9, true), (10, true), (11, true)] (fun w' => w'.cell? ⟨w.heap.size, 0, none⟩ = some (.int .i64 a) ∧ w'.cell? ⟨p, 2, none⟩ = some (.int .i64 q)) (by kernel_rfl) (by kernel_rfl) ⟨HX2.out.drew.cell 0, HL2.out.drew.cell 2⟩ (fun hHeld => ?_)
  simp only [List.map_cons, List.map_nil, List.getElem?_toArray, List.getElem?_cons_zero, List.getElem?_cons_succ]
  repeat (first | (refine seq_skip (by rfl) ?_; try simp only [Act.put, List.setIfInBounds_toArray, List.set_cons_zero, List.set_cons_succ]) | (refine seq_not (by rfl) (by assumption) ?_; try simp only [Act.put, List.setIfInBounds_toArray, List.set_cons_zero, List.set_cons_succ]) | (refine seq_take (v := ?_) (by rfl) ?_ ?_; rotate_left; (focus ((intro w hSw; (try dsimp only at hSw); go_simp; (try with_reducible rfl)); done)); try simp only [Act.put, List.setIfInBounds_toArray, List.set_cons_zero, List.set_cons_succ]))
  refine seq_done ?_
  clear hHeld
  go_wp2_with (go_at_call 12; with_reducible refine Calls.mono (lose_ok p me l q _ HL2.out.drew) ?_; rintro e w3 ⟨rfl, hl, hk⟩; have HL3 := Lib.hid hl; have HK3 := Lib.hid hk; clear hl hk)
  go_ret
  exact ⟨rfl, HL3.out, (Kp.of_below (below_drew_ HB2.out)).trans HK3.out⟩
theorem hear_no1 (p : Nat) (me l q a b : Int) (w : World) (h : Lv w p me l q) (hg : okFind a b = true) (hm : (a == me) = false) (hq : (a == q) = false) (hb63 : 63 < b + 1) (hb64 : b ≤ 1000) :
    Calls Try.prog 9 #[.pointer (some ⟨p, 0, none⟩), .agg #[.int .i64 a, .int .i64 b]] w fun e w' => e = .returned (.bool false) ∧ Below w.heap.size w w' := by
  have hbd : decide (63 < b + 1) = true := decide_eq_true hb63
  have hwr : IntKind.i64.wrap (b + 1) = b + 1 := IntWalk.i64_in _ (by omega)
  have hq2 : (a != q) = true := by simpa using hq
  have hb : Below w.heap.size w (w.alloc (.cells #[.int .i64 a, .int .i64 b] 30)) := (Below.refl _ w).alloc (Nat.le_refl _) _
  have hx : Blk (w.alloc (.cells #[.int .i64 a, .int .i64 b] 30)) w.heap.size 30 #[.int .i64 a, .int .i64 b] := Blk.new w _ _
  have hl : Blk (w.alloc (.cells #[.int .i64 a, .int .i64 b] 30)) p 47 #[.int .i64 me, .int .i64 l, .int .i64 q] := h.alloc _
  have HB := Lib.hid hb
  have HX := Lib.hid hx
  have HL := Lib.hid hl
  have hpb : p < w.heap.size := h.lt
  have hG := fun w => good_find a b w
  rw [show ([⟨1, a, 63⟩, ⟨1, b, 63⟩] : List Fld).all Fld.ok = true from hg] at hG
  have HG := Lib.hid hG
  clear hb hx hl h hg hG
  go_enter Try.func9, Try.ntmps9
  go_wp2
  generalize hw1 : w.alloc (.cells #[.int .i64 a, .int .i64 b] 30) = w1 at HB HX HL ⊢
  clear hw1
  refine wp_region_seq [(0, true), (1, true), (2, true), (3, true), (4, true), (5, false), (6, true), (7, true), (8, true), (9, true), (10, true), (11, true), (12, true), (13, true), (14, true), (15, true), (16, true)] (fun w' => w'.cell? ⟨w.heap.size, 0, none⟩ = some (.int .i64 a) ∧ w'.cell? ⟨w.heap.size, 1, none⟩ = some (.int .i64 b) ∧ w'.cell? ⟨p, 0, none⟩ = some (.int .i64 me)) (by kernel_rfl) (by kernel_rfl) ⟨HX.out.drew.cell 0, HX.out.drew.cell 1, HL.out.drew.cell 0⟩ (fun hHeld => ?_)
  simp only [List.map_cons, List.map_nil, List.getElem?_toArray, List.getElem?_cons_zero, List.getElem?_cons_succ]
  repeat (first | (refine seq_skip (by rfl) ?_; try simp only [Act.put, List.setIfInBounds_toArray, List.set_cons_zero, List.set_cons_succ]) | (refine seq_not (by rfl) (by assumption) ?_; try simp only [Act.put, List.setIfInBounds_toArray, List.set_cons_zero, List.set_cons_succ]) | (refine seq_take (v := ?_) (by rfl) ?_ ?_; rotate_left; (focus ((intro w hSw; (try dsimp only at hSw); go_simp; (try with_reducible rfl)); done)); try simp only [Act.put, List.setIfInBounds_toArray, List.set_cons_zero, List.set_cons_succ]))
  refine seq_do (fun K hK => ?_)
  go_simp
  go_at_call 11
  with_reducible refine Calls.mono (HG.out _) ?_
  rintro e w2 ⟨rfl, hb⟩
  have HX2 := Lib.hid (HX.out.drew.keeps hb)
  have HL2 := Lib.hid (HL.out.drew.keeps hb)
  dsimp only
  refine hK.out _ _ ⟨HX2.out.cell 0, HX2.out.cell 1, HL2.out.cell 0⟩ (fun hHeld => ?_)
  clear hK K
  have HB2 := Lib.hid ((below_drew_ HB.out).trans (hb.mono HB.out.size))
  clear hb hHeld
  have hHeld : w2.cell? ⟨w.heap.size, 0, none⟩ = some (.int .i64 a) ∧ w2.cell? ⟨w.heap.size, 1, none⟩ = some (.int .i64 b) ∧ w2.cell? ⟨p, 0, none⟩ = some (.int .i64 me) := ⟨HX2.out.cell 0, HX2.out.cell 1, HL2.out.cell 0⟩
  repeat (first | (refine seq_skip (by rfl) ?_; try simp only [Act.put, List.setIfInBounds_toArray, List.set_cons_zero, List.set_cons_succ]) | (refine seq_not (by rfl) (by assumption) ?_; try simp only [Act.put, List.setIfInBounds_toArray, List.set_cons_zero, List.set_cons_succ]) | (refine seq_take (v := ?_) (by rfl) ?_ ?_; rotate_left; (focus ((intro w hSw; (try dsimp only at hSw); go_simp; (try with_reducible rfl)); done)); try simp only [Act.put, List.setIfInBounds_toArray, List.set_cons_zero, List.set_cons_succ]))
  refine seq_done ?_
  clear hHeld
  have y0 : w2.cell? ⟨w.heap.size, 0, none⟩ = some (.int .i64 a) := HX2.out.cell 0
  have y1 : w2.cell? ⟨w.heap.size, 1, none⟩ = some (.int .i64 b) := HX2.out.cell 1
  have z0 : w2.cell? ⟨p, 0, none⟩ = some (.int .i64 me) := HL2.out.cell 0
  have z1 : w2.cell? ⟨p, 1, none⟩ = some (.int .i64 l) := HL2.out.cell 1
  have z2 : w2.cell? ⟨p, 2, none⟩ = some (.int .i64 q) := HL2.out.cell 2
  go_wp2
  clear y0 y1 z0 z1 z2
  refine wp_region_seq [(0, true), (1, true), (2, true), (3, true), (4, true), (5, true), (6, true), (7, true), (8, true), (9, true), (10, true), (11, true)] (fun w' => w'.cell? ⟨w.heap.size, 0, none⟩ = some (.int .i64 a) ∧ w'.cell? ⟨p, 2, none⟩ = some (.int .i64 q)) (by kernel_rfl) (by kernel_rfl) ⟨HX2.out.drew.cell 0, HL2.out.drew.cell 2⟩ (fun hHeld => ?_)
  simp only [List.map_cons, List.map_nil, List.getElem?_toArray, List.getElem?_cons_zero, List.getElem?_cons_succ]
  repeat (first | (refine seq_skip (by rfl) ?_; try simp only [Act.put, List.setIfInBounds_toArray, List.set_cons_zero, List.set_cons_succ]) | (refine seq_not (by rfl) (by assumption) ?_; try simp only [Act.put, List.setIfInBounds_toArray, List.set_cons_zero, List.set_cons_succ]) | (refine seq_take (v := ?_) (by rfl) ?_ ?_; rotate_left; (focus ((intro w hSw; (try dsimp only at hSw); go_simp; (try with_reducible rfl)); done)); try simp only [Act.put, List.setIfInBounds_toArray, List.set_cons_zero, List.set_cons_succ]))
  refine seq_done ?_
  clear hHeld
  go_wp2
  refine wp_region_seq [(0, true), (1, true), (2, true), (3, true), (4, true), (5, true), (6, true), (7, true), (8, true), (9, true), (10, true), (11, true), (12, true), (13, true), (14, true), (15, true), (16, true), (17, true), (18, true), (19, true), (20, true), (21, true), (22, true), (23, true), (24, true), (25, true), (26, true), (27, true), (28, true), (29, true), (30, true), (31, true), (32, true), (33, true), (34, true), (35, true), (36, true), (37, true), (38, true), (39, true), (40, true), (41, true), (42, true), (43, true)] (fun w' => w'.cell? ⟨w.heap.size, 0, none⟩ = some (.int .i64 a) ∧ w'.cell? ⟨p, 1, none⟩ = some (.int .i64 l) ∧ w'.cell? ⟨p, 2, none⟩ = some (.int .i64 q)) (by kernel_rfl) (by kernel_rfl) ⟨HX2.out.drew.drew.cell 0, HL2.out.drew.drew.cell 1, HL2.out.drew.drew.cell 2⟩ (fun hHeld => ?_)
  simp only [List.map_cons, List.map_nil, List.getElem?_toArray, List.getElem?_cons_zero, List.getElem?_cons_succ]
  repeat (first | (refine seq_skip (by rfl) ?_; try simp only [Act.put, List.setIfInBounds_toArray, List.set_cons_zero, List.set_cons_succ]) | (refine seq_not (by rfl) (by assumption) ?_; try simp only [Act.put, List.setIfInBounds_toArray, List.set_cons_zero, List.set_cons_succ]) | (refine seq_take (v := ?_) (by rfl) ?_ ?_; rotate_left; (focus ((intro w hSw; (try dsimp only at hSw); go_simp; (try with_reducible rfl)); done)); try simp only [Act.put, List.setIfInBounds_toArray, List.set_cons_zero, List.set_cons_succ]))
  refine seq_done ?_
  clear hHeld
  go_wp2
  go_ret
  exact ⟨rfl, below_drew_ (below_drew_ HB2.out)⟩
theorem hear_no2 (p : Nat) (me l q a b : Int) (w : World) (h : Lv w p me l q) (hg : okFind a b = true) (hm : (a == me) = false) (hq : (a == q) = false) (hb63 : ¬ 63 < b + 1) (hl0 : 0 ≤ l) (hlb : l ≤ b + 1) :
    Calls Try.prog 9 #[.pointer (some ⟨p, 0, none⟩), .agg #[.int .i64 a, .int .i64 b]] w fun e w' => e = .returned (.bool false) ∧ Below w.heap.size w w' := by
  have hbd : decide (63 < b + 1) = false := decide_eq_false hb63
  have hld : decide (0 ≤ l) = true := decide_eq_true hl0
  have hlc : decide (l ≤ b + 1) = true := decide_eq_true hlb
  have hwr : IntKind.i64.wrap (b + 1) = b + 1 := IntWalk.i64_in _ (by omega)
  have hq2 : (a != q) = true := by simpa using hq
  have hb : Below w.heap.size w (w.alloc (.cells #[.int .i64 a, .int .i64 b] 30)) := (Below.refl _ w).alloc (Nat.le_refl _) _
  have hx : Blk (w.alloc (.cells #[.int .i64 a, .int .i64 b] 30)) w.heap.size 30 #[.int .i64 a, .int .i64 b] := Blk.new w _ _
  have hl : Blk (w.alloc (.cells #[.int .i64 a, .int .i64 b] 30)) p 47 #[.int .i64 me, .int .i64 l, .int .i64 q] := h.alloc _
  have HB := Lib.hid hb
  have HX := Lib.hid hx
  have HL := Lib.hid hl
  have hpb : p < w.heap.size := h.lt
  have hG := fun w => good_find a b w
  rw [show ([⟨1, a, 63⟩, ⟨1, b, 63⟩] : List Fld).all Fld.ok = true from hg] at hG
  have HG := Lib.hid hG
  clear hb hx hl h hg hG
  go_enter Try.func9, Try.ntmps9
  go_wp2
  generalize hw1 : w.alloc (.cells #[.int .i64 a, .int .i64 b] 30) = w1 at HB HX HL ⊢
  clear hw1
  refine wp_region_seq [(0, true), (1, true), (2, true), (3, true), (4, true), (5, false), (6, true), (7, true), (8, true), (9, true), (10, true), (11, true), (12, true), (13, true), (14, true), (15, true), (16, true)] (fun w' => w'.cell? ⟨w.heap.size, 0, none⟩ = some (.int .i64 a) ∧ w'.cell? ⟨w.heap.size, 1, none⟩ = some (.int .i64 b) ∧ w'.cell? ⟨p, 0, none⟩ = some (.int .i64 me)) (by kernel_rfl) (by kernel_rfl) ⟨HX.out.drew.cell 0, HX.out.drew.cell 1, HL.out.drew.cell 0⟩ (fun hHeld => ?_)
  simp only [List.map_cons, List.map_nil, List.getElem?_toArray, List.getElem?_cons_zero, List.getElem?_cons_succ]
  repeat (first | (refine seq_skip (by rfl) ?_; try simp only [Act.put, List.setIfInBounds_toArray, List.set_cons_zero, List.set_cons_succ]) | (refine seq_not (by rfl) (by assumption) ?_; try simp only [Act.put, List.setIfInBounds_toArray, List.set_cons_zero, List.set_cons_succ]) | (refine seq_take (v := ?_) (by rfl) ?_ ?_; rotate_left; (focus ((intro w hSw; (try dsimp only at hSw); go_simp; (try with_reducible rfl)); done)); try simp only [Act.put, List.setIfInBounds_toArray, List.set_cons_zero, List.set_cons_succ]))
  refine seq_do (fun K hK => ?_)
  go_simp
  go_at_call 11
  with_reducible refine Calls.mono (HG.out _) ?_
  rintro e w2 ⟨rfl, hb⟩
  have HX2 := Lib.hid (HX.out.drew.keeps hb)
  have HL2 := Lib.hid (HL.out.drew.keeps hb)
  dsimp only
  refine hK.out _ _ ⟨HX2.out.cell 0, HX2.out.cell 1, HL2.out.cell 0⟩ (fun hHeld => ?_)
  clear hK K
  have HB2 := Lib.hid ((below_drew_ HB.out).trans (hb.mono HB.out.size))
  clear hb hHeld
  have hHeld : w2.cell? ⟨w.heap.size, 0, none⟩ = some (.int .i64 a) ∧ w2.cell? ⟨w.heap.size, 1, none⟩ = some (.int .i64 b) ∧ w2.cell? ⟨p, 0, none⟩ = some (.int .i64 me) := ⟨HX2.out.cell 0, HX2.out.cell 1, HL2.out.cell 0⟩
  repeat (first | (refine seq_skip (by rfl) ?_; try simp only [Act.put, List.setIfInBounds_toArray, List.set_cons_zero, List.set_cons_succ]) | (refine seq_not (by rfl) (by assumption) ?_; try simp only [Act.put, List.setIfInBounds_toArray, List.set_cons_zero, List.set_cons_succ]) | (refine seq_take (v := ?_) (by rfl) ?_ ?_; rotate_left; (focus ((intro w hSw; (try dsimp only at hSw); go_simp; (try with_reducible rfl)); done)); try simp only [Act.put, List.setIfInBounds_toArray, List.set_cons_zero, List.set_cons_succ]))
  refine seq_done ?_
  clear hHeld
  have y0 : w2.cell? ⟨w.heap.size, 0, none⟩ = some (.int .i64 a) := HX2.out.cell 0
  have y1 : w2.cell? ⟨w.heap.size, 1, none⟩ = some (.int .i64 b) := HX2.out.cell 1
  have z0 : w2.cell? ⟨p, 0, none⟩ = some (.int .i64 me) := HL2.out.cell 0
  have z1 : w2.cell? ⟨p, 1, none⟩ = some (.int .i64 l) := HL2.out.cell 1
  have z2 : w2.cell? ⟨p, 2, none⟩ = some (.int .i64 q) := HL2.out.cell 2
  go_wp2
  clear y0 y1 z0 z1 z2
  refine wp_region_seq [(0, true), (1, true), (2, true), (3, true), (4, true), (5, true), (6, true), (7, true), (8, true), (9, true), (10, true), (11, true)] (fun w' => w'.cell? ⟨w.heap.size, 0, none⟩ = some (.int .i64 a) ∧ w'.cell? ⟨p, 2, none⟩ = some (.int .i64 q)) (by kernel_rfl) (by kernel_rfl) ⟨HX2.out.drew.cell 0, HL2.out.drew.cell 2⟩ (fun hHeld => ?_)
  simp only [List.map_cons, List.map_nil, List.getElem?_toArray, List.getElem?_cons_zero, List.getElem?_cons_succ]
  repeat (first | (refine seq_skip (by rfl) ?_; try simp only [Act.put, List.setIfInBounds_toArray, List.set_cons_zero, List.set_cons_succ]) | (refine seq_not (by rfl) (by assumption) ?_; try simp only [Act.put, List.setIfInBounds_toArray, List.set_cons_zero, List.set_cons_succ]) | (refine seq_take (v := ?_) (by rfl) ?_ ?_; rotate_left; (focus ((intro w hSw; (try dsimp only at hSw); go_simp; (try with_reducible rfl)); done)); try simp only [Act.put, List.setIfInBounds_toArray, List.set_cons_zero, List.set_cons_succ]))
  refine seq_done ?_
  clear hHeld
  go_wp2
  refine wp_region_seq [(0, true), (1, true), (2, true), (3, true), (4, true), (5, true), (6, true), (7, true), (8, true), (9, true), (10, true), (11, true), (12, true), (13, true), (14, true), (15, true), (16, true), (17, true), (18, true), (19, true), (20, true), (21, true), (22, true), (23, true), (24, true), (25, true), (26, true), (27, true), (28, true), (29, true), (30, true), (31, true), (32, true), (33, true), (34, true), (35, true), (36, true), (37, true), (38, true), (39, true), (40, true), (41, true), (42, true), (43, true)] (fun w' => w'.cell? ⟨w.heap.size, 0, none⟩ = some (.int .i64 a) ∧ w'.cell? ⟨p, 1, none⟩ = some (.int .i64 l) ∧ w'.cell? ⟨p, 2, none⟩ = some (.int .i64 q)) (by kernel_rfl) (by kernel_rfl) ⟨HX2.out.drew.drew.cell 0, HL2.out.drew.drew.cell 1, HL2.out.drew.drew.cell 2⟩ (fun hHeld => ?_)
  simp only [List.map_cons, List.map_nil, List.getElem?_toArray, List.getElem?_cons_zero, List.getElem?_cons_succ]
  repeat (first | (refine seq_skip (by rfl) ?_; try simp only [Act.put, List.setIfInBounds_toArray, List.set_cons_zero, List.set_cons_succ]) | (refine seq_not (by rfl) (by assumption) ?_; try simp only [Act.put, List.setIfInBounds_toArray, List.set_cons_zero, List.set_cons_succ]) | (refine seq_take (v := ?_) (by rfl) ?_ ?_; rotate_left; (focus ((intro w hSw; (try dsimp only at hSw); go_simp; (try with_reducible rfl)); done)); try simp only [Act.put, List.setIfInBounds_toArray, List.set_cons_zero, List.set_cons_succ]))
  refine seq_done ?_
  clear hHeld
  go_wp2
  go_ret
  exact ⟨rfl, below_drew_ (below_drew_ HB2.out)⟩
theorem hear_no3 (p : Nat) (me l q a b : Int) (w : World) (h : Lv w p me l q) (hg : okFind a b = true) (hm : (a == me) = false) (hq : (a == q) = true) (hb63 : ¬ 63 < b + 1) (hb0 : 0 ≤ b) (hl : (b + 1 == l) = true) :
    Calls Try.prog 9 #[.pointer (some ⟨p, 0, none⟩), .agg #[.int .i64 a, .int .i64 b]] w fun e w' => e = .returned (.bool false) ∧ Below w.heap.size w w' := by
  have hbd : decide (63 < b + 1) = false := decide_eq_false hb63
  have hwr : IntKind.i64.wrap (b + 1) = b + 1 := IntWalk.i64_in _ (by omega)
  have hq2 : (a != q) = false := by simpa using hq
  have hb : Below w.heap.size w (w.alloc (.cells #[.int .i64 a, .int .i64 b] 30)) := (Below.refl _ w).alloc (Nat.le_refl _) _
  have hx : Blk (w.alloc (.cells #[.int .i64 a, .int .i64 b] 30)) w.heap.size 30 #[.int .i64 a, .int .i64 b] := Blk.new w _ _
  have hl : Blk (w.alloc (.cells #[.int .i64 a, .int .i64 b] 30)) p 47 #[.int .i64 me, .int .i64 l, .int .i64 q] := h.alloc _
  have HB := Lib.hid hb
  have HX := Lib.hid hx
  have HL := Lib.hid hl
  have hpb : p < w.heap.size := h.lt
  have hG := fun w => good_find a b w
  rw [show ([⟨1, a, 63⟩, ⟨1, b, 63⟩] : List Fld).all Fld.ok = true from hg] at hG
  have HG := Lib.hid hG
  clear hb hx hl h hg hG
  go_enter Try.func9, Try.ntmps9
  go_wp2
  generalize hw1 : w.alloc (.cells #[.int .i64 a, .int .i64 b] 30) = w1 at HB HX HL ⊢
  clear hw1
  refine wp_region_seq [(0, true), (1, true), (2, true), (3, true), (4, true), (5, false), (6, true), (7, true), (8, true), (9, true), (10, true), (11, true), (12, true), (13, true), (14, true), (15, true), (16, true)] (fun w' => w'.cell? ⟨w.heap.size, 0, none⟩ = some (.int .i64 a) ∧ w'.cell? ⟨w.heap.size, 1, none⟩ = some (.int .i64 b) ∧ w'.cell? ⟨p, 0, none⟩ = some (.int .i64 me)) (by kernel_rfl) (by kernel_rfl) ⟨HX.out.drew.cell 0, HX.out.drew.cell 1, HL.out.drew.cell 0⟩ (fun hHeld => ?_)
  simp only [List.map_cons, List.map_nil, List.getElem?_toArray, List.getElem?_cons_zero, List.getElem?_cons_succ]
  repeat (first | (refine seq_skip (by rfl) ?_; try simp only [Act.put, List.setIfInBounds_toArray, List.set_cons_zero, List.set_cons_succ]) | (refine seq_not (by rfl) (by assumption) ?_; try simp only [Act.put, List.setIfInBounds_toArray, List.set_cons_zero, List.set_cons_succ]) | (refine seq_take (v := ?_) (by rfl) ?_ ?_; rotate_left; (focus ((intro w hSw; (try dsimp only at hSw); go_simp; (try with_reducible rfl)); done)); try simp only [Act.put, List.setIfInBounds_toArray, List.set_cons_zero, List.set_cons_succ]))
  refine seq_do (fun K hK => ?_)
  go_simp
  go_at_call 11
  with_reducible refine Calls.mono (HG.out _) ?_
  rintro e w2 ⟨rfl, hb⟩
  have HX2 := Lib.hid (HX.out.drew.keeps hb)
  have HL2 := Lib.hid (HL.out.drew.keeps hb)
  dsimp only
  refine hK.out _ _ ⟨HX2.out.cell 0, HX2.out.cell 1, HL2.out.cell 0⟩ (fun hHeld => ?_)
  clear hK K
  have HB2 := Lib.hid ((below_drew_ HB.out).trans (hb.mono HB.out.size))
  clear hb hHeld
  have hHeld : w2.cell? ⟨w.heap.size, 0, none⟩ = some (.int .i64 a) ∧ w2.cell? ⟨w.heap.size, 1, none⟩ = some (.int .i64 b) ∧ w2.cell? ⟨p, 0, none⟩ = some (.int .i64 me) := ⟨HX2.out.cell 0, HX2.out.cell 1, HL2.out.cell 0⟩
  repeat (first | (refine seq_skip (by rfl) ?_; try simp only [Act.put, List.setIfInBounds_toArray, List.set_cons_zero, List.set_cons_succ]) | (refine seq_not (by rfl) (by assumption) ?_; try simp only [Act.put, List.setIfInBounds_toArray, List.set_cons_zero, List.set_cons_succ]) | (refine seq_take (v := ?_) (by rfl) ?_ ?_; rotate_left; (focus ((intro w hSw; (try dsimp only at hSw); go_simp; (try with_reducible rfl)); done)); try simp only [Act.put, List.setIfInBounds_toArray, List.set_cons_zero, List.set_cons_succ]))
  refine seq_done ?_
  clear hHeld
  have y0 : w2.cell? ⟨w.heap.size, 0, none⟩ = some (.int .i64 a) := HX2.out.cell 0
  have y1 : w2.cell? ⟨w.heap.size, 1, none⟩ = some (.int .i64 b) := HX2.out.cell 1
  have z0 : w2.cell? ⟨p, 0, none⟩ = some (.int .i64 me) := HL2.out.cell 0
  have z1 : w2.cell? ⟨p, 1, none⟩ = some (.int .i64 l) := HL2.out.cell 1
  have z2 : w2.cell? ⟨p, 2, none⟩ = some (.int .i64 q) := HL2.out.cell 2
  go_wp2
  clear y0 y1 z0 z1 z2
  refine wp_region_seq [(0, true), (1, true), (2, true), (3, true), (4, true), (5, true), (6, true), (7, true), (8, true), (9, true), (10, true), (11, true)] (fun w' => w'.cell? ⟨w.heap.size, 0, none⟩ = some (.int .i64 a) ∧ w'.cell? ⟨p, 2, none⟩ = some (.int .i64 q)) (by kernel_rfl) (by kernel_rfl) ⟨HX2.out.drew.cell 0, HL2.out.drew.cell 2⟩ (fun hHeld => ?_)
  simp only [List.map_cons, List.map_nil, List.getElem?_toArray, List.getElem?_cons_zero, List.getElem?_cons_succ]
  repeat (first | (refine seq_skip (by rfl) ?_; try simp only [Act.put, List.setIfInBounds_toArray, List.set_cons_zero, List.set_cons_succ]) | (refine seq_not (by rfl) (by assumption) ?_; try simp only [Act.put, List.setIfInBounds_toArray, List.set_cons_zero, List.set_cons_succ]) | (refine seq_take (v := ?_) (by rfl) ?_ ?_; rotate_left; (focus ((intro w hSw; (try dsimp only at hSw); go_simp; (try with_reducible rfl)); done)); try simp only [Act.put, List.setIfInBounds_toArray, List.set_cons_zero, List.set_cons_succ]))
  refine seq_done ?_
  clear hHeld
  go_wp2
  refine wp_region_seq [(0, true), (1, true), (2, true), (3, true), (4, true), (5, true), (6, true), (7, true), (8, true), (9, true), (10, true), (11, true), (12, true), (13, true), (14, true), (15, true), (16, true), (17, true), (18, true), (19, true), (20, true), (21, true), (22, true), (23, true), (24, true), (25, true), (26, true), (27, true), (28, true), (29, true), (30, true), (31, true), (32, true), (33, true), (34, true), (35, true), (36, true), (37, true), (38, true), (39, true), (40, true), (41, true), (42, true), (43, true)] (fun w' => w'.cell? ⟨w.heap.size, 0, none⟩ = some (.int .i64 a) ∧ w'.cell? ⟨p, 1, none⟩ = some (.int .i64 l) ∧ w'.cell? ⟨p, 2, none⟩ = some (.int .i64 q)) (by kernel_rfl) (by kernel_rfl) ⟨HX2.out.drew.drew.cell 0, HL2.out.drew.drew.cell 1, HL2.out.drew.drew.cell 2⟩ (fun hHeld => ?_)
  simp only [List.map_cons, List.map_nil, List.getElem?_toArray, List.getElem?_cons_zero, List.getElem?_cons_succ]
  repeat (first | (refine seq_skip (by rfl) ?_; try simp only [Act.put, List.setIfInBounds_toArray, List.set_cons_zero, List.set_cons_succ]) | (refine seq_not (by rfl) (by assumption) ?_; try simp only [Act.put, List.setIfInBounds_toArray, List.set_cons_zero, List.set_cons_succ]) | (refine seq_take (v := ?_) (by rfl) ?_ ?_; rotate_left; (focus ((intro w hSw; (try dsimp only at hSw); go_simp; (try with_reducible rfl)); done)); try simp only [Act.put, List.setIfInBounds_toArray, List.set_cons_zero, List.set_cons_succ]))
  refine seq_done ?_
  clear hHeld
  go_wp2
  go_ret
  exact ⟨rfl, below_drew_ (below_drew_ HB2.out)⟩
theorem hear_yes1 (p : Nat) (me l q a b : Int) (w : World) (h : Lv w p me l q) (hg : okFind a b = true) (hm : (a == me) = false) (hq : (a == q) = false) (hb63 : ¬ 63 < b + 1) (hb0 : 0 ≤ b) (hl0 : l < 0) :
    Calls Try.prog 9 #[.pointer (some ⟨p, 0, none⟩), .agg #[.int .i64 a, .int .i64 b]] w fun e w' => e = .returned (.bool true) ∧ Lv w' p me (b + 1) a ∧ Kp (fun k => k = p) w w' := by
  have hbd : decide (63 < b + 1) = false := decide_eq_false hb63
  have hld : decide (0 ≤ l) = false := decide_eq_false (by omega)
  have hwr : IntKind.i64.wrap (b + 1) = b + 1 := IntWalk.i64_in _ (by omega)
  have hq2 : (a != q) = true := by simpa using hq
  have hb : Below w.heap.size w (w.alloc (.cells #[.int .i64 a, .int .i64 b] 30)) := (Below.refl _ w).alloc (Nat.le_refl _) _
  have hx : Blk (w.alloc (.cells #[.int .i64 a, .int .i64 b] 30)) w.heap.size 30 #[.int .i64 a, .int .i64 b] := Blk.new w _ _
  have hl : Blk (w.alloc (.cells #[.int .i64 a, .int .i64 b] 30)) p 47 #[.int .i64 me, .int .i64 l, .int .i64 q] := h.alloc _
  have HB := Lib.hid hb
  have HX := Lib.hid hx
  have HL := Lib.hid hl
  have hpb : p < w.heap.size := h.lt
  have hG := fun w => good_find a b w
  rw [show ([⟨1, a, 63⟩, ⟨1, b, 63⟩] : List Fld).all Fld.ok = true from hg] at hG
  have HG := Lib.hid hG
  clear hb hx hl h hg hG
  go_enter Try.func9, Try.ntmps9
  go_wp2
  generalize hw1 : w.alloc (.cells #[.int .i64 a, .int .i64 b] 30) = w1 at HB HX HL ⊢
  clear hw1
  refine wp_region_seq [(0, true), (1, true), (2, true), (3, true), (4, true), (5, false), (6, true), (7, true), (8, true), (9, true), (10, true), (11, true), (12, true), (13, true), (14, true), (15, true), (16, true)] (fun w' => w'.cell? ⟨w.heap.size, 0, none⟩ = some (.int .i64 a) ∧ w'.cell? ⟨w.heap.size, 1, none⟩ = some (.int .i64 b) ∧ w'.cell? ⟨p, 0, none⟩ = some (.int .i64 me)) (by kernel_rfl) (by kernel_rfl) ⟨HX.out.drew.cell 0, HX.out.drew.cell 1, HL.out.drew.cell 0⟩ (fun hHeld => ?_)
  simp only [List.map_cons, List.map_nil, List.getElem?_toArray, List.getElem?_cons_zero, List.getElem?_cons_succ]
  repeat (first | (refine seq_skip (by rfl) ?_; try simp only [Act.put, List.setIfInBounds_toArray, List.set_cons_zero, List.set_cons_succ]) | (refine seq_not (by rfl) (by assumption) ?_; try simp only [Act.put, List.setIfInBounds_toArray, List.set_cons_zero, List.set_cons_succ]) | (refine seq_take (v := ?_) (by rfl) ?_ ?_; rotate_left; (focus ((intro w hSw; (try dsimp only at hSw); go_simp; (try with_reducible rfl)); done)); try simp only [Act.put, List.setIfInBounds_toArray, List.set_cons_zero, List.set_cons_succ]))
  refine seq_do (fun K hK => ?_)
  go_simp
  go_at_call 11
  with_reducible refine Calls.mono (HG.out _) ?_
  rintro e w2 ⟨rfl, hb⟩
  have HX2 := Lib.hid (HX.out.drew.keeps hb)
  have HL2 := Lib.hid (HL.out.drew.keeps hb)
  dsimp only
  refine hK.out _ _ ⟨HX2.out.cell 0, HX2.out.cell 1, HL2.out.cell 0⟩ (fun hHeld => ?_)
  clear hK K
  have HB2 := Lib.hid ((below_drew_ HB.out).trans (hb.mono HB.out.size))
  clear hb hHeld
  have hHeld : w2.cell? ⟨w.heap.size, 0, none⟩ = some (.int .i64 a) ∧ w2.cell? ⟨w.heap.size, 1, none⟩ = some (.int .i64 b) ∧ w2.cell? ⟨p, 0, none⟩ = some (.int .i64 me) := ⟨HX2.out.cell 0, HX2.out.cell 1, HL2.out.cell 0⟩
  repeat (first | (refine seq_skip (by rfl) ?_; try simp only [Act.put, List.setIfInBounds_toArray, List.set_cons_zero, List.set_cons_succ]) | (refine seq_not (by rfl) (by assumption) ?_; try simp only [Act.put, List.setIfInBounds_toArray, List.set_cons_zero, List.set_cons_succ]) | (refine seq_take (v := ?_) (by rfl) ?_ ?_; rotate_left; (focus ((intro w hSw; (try dsimp only at hSw); go_simp; (try with_reducible rfl)); done)); try simp only [Act.put, List.setIfInBounds_toArray, List.set_cons_zero, List.set_cons_succ]))
  refine seq_done ?_
  clear hHeld
  have y0 : w2.cell? ⟨w.heap.size, 0, none⟩ = some (.int .i64 a) := HX2.out.cell 0
  have y1 : w2.cell? ⟨w.heap.size, 1, none⟩ = some (.int .i64 b) := HX2.out.cell 1
  have z0 : w2.cell? ⟨p, 0, none⟩ = some (.int .i64 me) := HL2.out.cell 0
  have z1 : w2.cell? ⟨p, 1, none⟩ = some (.int .i64 l) := HL2.out.cell 1
  have z2 : w2.cell? ⟨p, 2, none⟩ = some (.int .i64 q) := HL2.out.cell 2
  go_wp2
  clear y0 y1 z0 z1 z2
  refine wp_region_seq [(0, true), (1, true), (2, true), (3, true), (4, true), (5, true), (6, true), (7, true), (8, true), (9, true), (10, true), (11, true)] (fun w' => w'.cell? ⟨w.heap.size, 0, none⟩ = some (.int .i64 a) ∧ w'.cell? ⟨p, 2, none⟩ = some (.int .i64 q)) (by kernel_rfl) (by kernel_rfl) ⟨HX2.out.drew.cell 0, HL2.out.drew.cell 2⟩ (fun hHeld => ?_)
  simp only [List.map_cons, List.map_nil, List.getElem?_toArray, List.getElem?_cons_zero, List.getElem?_cons_succ]
  repeat (first | (refine seq_skip (by rfl) ?_; try simp only [Act.put, List.setIfInBounds_toArray, List.set_cons_zero, List.set_cons_succ]) | (refine seq_not (by rfl) (by assumption) ?_; try simp only [Act.put, List.setIfInBounds_toArray, List.set_cons_zero, List.set_cons_succ]) | (refine seq_take (v := ?_) (by rfl) ?_ ?_; rotate_left; (focus ((intro w hSw; (try dsimp only at hSw); go_simp; (try with_reducible rfl)); done)); try simp only [Act.put, List.setIfInBounds_toArray, List.set_cons_zero, List.set_cons_succ]))
  refine seq_done ?_
  clear hHeld
  go_wp2
  refine wp_region_seq [(0, true), (1, true), (2, true), (3, true), (4, true), (5, true), (6, true), (7, true), (8, true), (9, true), (10, true), (11, true), (12, true), (13, true), (14, true), (15, true), (16, true), (17, true), (18, true), (19, true), (20, true), (21, true), (22, true), (23, true), (24, true), (25, true), (26, true), (27, true), (28, true), (29, true), (30, true), (31, true), (32, true), (33, true), (34, true), (35, true), (36, true), (37, true), (38, true), (39, true), (40, true), (41, true), (42, true), (43, true)] (fun w' => w'.cell? ⟨w.heap.size, 0, none⟩ = some (.int .i64 a) ∧ w'.cell? ⟨p, 1, none⟩ = some (.int .i64 l) ∧ w'.cell? ⟨p, 2, none⟩ = some (.int .i64 q)) (by kernel_rfl) (by kernel_rfl) ⟨HX2.out.drew.drew.cell 0, HL2.out.drew.drew.cell 1, HL2.out.drew.drew.cell 2⟩ (fun hHeld => ?_)
  simp only [List.map_cons, List.map_nil, List.getElem?_toArray, List.getElem?_cons_zero, List.getElem?_cons_succ]
  repeat (first | (refine seq_skip (by rfl) ?_; try simp only [Act.put, List.setIfInBounds_toArray, List.set_cons_zero, List.set_cons_succ]) | (refine seq_not (by rfl) (by assumption) ?_; try simp only [Act.put, List.setIfInBounds_toArray, List.set_cons_zero, List.set_cons_succ]) | (refine seq_take (v := ?_) (by rfl) ?_ ?_; rotate_left; (focus ((intro w hSw; (try dsimp only at hSw); go_simp; (try with_reducible rfl)); done)); try simp only [Act.put, List.setIfInBounds_toArray, List.set_cons_zero, List.set_cons_succ]))
  refine seq_done ?_
  clear hHeld
  have HX5 := Lib.hid (HX2.out.drew.drew)
  have HL5 := Lib.hid (HL2.out.drew.drew)
  have HB5 := Lib.hid (below_drew_ (below_drew_ HB2.out))
  generalize w2.drew.drew = w5 at *
  have y0 : w5.cell? ⟨w.heap.size, 0, none⟩ = some (.int .i64 a) := HX5.out.cell 0
  have z1 : w5.cell? ⟨p, 1, none⟩ = some (.int .i64 l) := HL5.out.cell 1
  have z2 : w5.cell? ⟨p, 2, none⟩ = some (.int .i64 q) := HL5.out.cell 2
  have f1 := HL5.out.frozen 1
  have f2 := HL5.out.frozen 2
  have hne : ¬ w.heap.size = p := by omega
  clear hwr
  go_wp2
  go_region
  go_wp2
  go_ret
  exact ⟨rfl, ((HL5.out.set_ 1 (.int .i64 (b + 1))).set_ 2 (.int .i64 a)).drew, (((Kp.of_below (S := fun k => k = p) HB5.out).set_ ⟨p, 1, none⟩ (.inl rfl) _).set_ ⟨p, 2, none⟩ (.inl rfl) _).drew⟩
theorem hear_yes2 (p : Nat) (me l q a b : Int) (w : World) (h : Lv w p me l q) (hg : okFind a b = true) (hm : (a == me) = false) (hq : (a == q) = false) (hb63 : ¬ 63 < b + 1) (hb0 : 0 ≤ b) (hl0 : 0 ≤ l) (hlb : b + 1 < l) :
    Calls Try.prog 9 #[.pointer (some ⟨p, 0, none⟩), .agg #[.int .i64 a, .int .i64 b]] w fun e w' => e = .returned (.bool true) ∧ Lv w' p me (b + 1) a ∧ Kp (fun k => k = p) w w' := by
  have hbd : decide (63 < b + 1) = false := decide_eq_false hb63
  have hld : decide (0 ≤ l) = true := decide_eq_true (by omega)
  have hlc : decide (l ≤ b + 1) = false := decide_eq_false (by omega)
  have hwr : IntKind.i64.wrap (b + 1) = b + 1 := IntWalk.i64_in _ (by omega)
  have hq2 : (a != q) = true := by simpa using hq
  have hb : Below w.heap.size w (w.alloc (.cells #[.int .i64 a, .int .i64 b] 30)) := (Below.refl _ w).alloc (Nat.le_refl _) _
  have hx : Blk (w.alloc (.cells #[.int .i64 a, .int .i64 b] 30)) w.heap.size 30 #[.int .i64 a, .int .i64 b] := Blk.new w _ _
  have hl : Blk (w.alloc (.cells #[.int .i64 a, .int .i64 b] 30)) p 47 #[.int .i64 me, .int .i64 l, .int .i64 q] := h.alloc _
  have HB := Lib.hid hb
  have HX := Lib.hid hx
  have HL := Lib.hid hl
  have hpb : p < w.heap.size := h.lt
  have hG := fun w => good_find a b w
  rw [show ([⟨1, a, 63⟩, ⟨1, b, 63⟩] : List Fld).all Fld.ok = true from hg] at hG
  have HG := Lib.hid hG
  clear hb hx hl h hg hG
  go_enter Try.func9, Try.ntmps9
  go_wp2
  generalize hw1 : w.alloc (.cells #[.int .i64 a, .int .i64 b] 30) = w1 at HB HX HL ⊢
  clear hw1
  refine wp_region_seq [(0, true), (1, true), (2, true), (3, true), (4, true), (5, false), (6, true), (7, true), (8, true), (9, true), (10, true), (11, true), (12, true), (13, true), (14, true), (15, true), (16, true)] (fun w' => w'.cell? ⟨w.heap.size, 0, none⟩ = some (.int .i64 a) ∧ w'.cell? ⟨w.heap.size, 1, none⟩ = some (.int .i64 b) ∧ w'.cell? ⟨p, 0, none⟩ = some (.int .i64 me)) (by kernel_rfl) (by kernel_rfl) ⟨HX.out.drew.cell 0, HX.out.drew.cell 1, HL.out.drew.cell 0⟩ (fun hHeld => ?_)
  simp only [List.map_cons, List.map_nil, List.getElem?_toArray, List.getElem?_cons_zero, List.getElem?_cons_succ]
  repeat (first | (refine seq_skip (by rfl) ?_; try simp only [Act.put, List.setIfInBounds_toArray, List.set_cons_zero, List.set_cons_succ]) | (refine seq_not (by rfl) (by assumption) ?_; try simp only [Act.put, List.setIfInBounds_toArray, List.set_cons_zero, List.set_cons_succ]) | (refine seq_take (v := ?_) (by rfl) ?_ ?_; rotate_left; (focus ((intro w hSw; (try dsimp only at hSw); go_simp; (try with_reducible rfl)); done)); try simp only [Act.put, List.setIfInBounds_toArray, List.set_cons_zero, List.set_cons_succ]))
  refine seq_do (fun K hK => ?_)
  go_simp
  go_at_call 11
  with_reducible refine Calls.mono (HG.out _) ?_
  rintro e w2 ⟨rfl, hb⟩
  have HX2 := Lib.hid (HX.out.drew.keeps hb)
  have HL2 := Lib.hid (HL.out.drew.keeps hb)
  dsimp only
  refine hK.out _ _ ⟨HX2.out.cell 0, HX2.out.cell 1, HL2.out.cell 0⟩ (fun hHeld => ?_)
  clear hK K
  have HB2 := Lib.hid ((below_drew_ HB.out).trans (hb.mono HB.out.size))
  clear hb hHeld
  have hHeld : w2.cell? ⟨w.heap.size, 0, none⟩ = some (.int .i64 a) ∧ w2.cell? ⟨w.heap.size, 1, none⟩ = some (.int .i64 b) ∧ w2.cell? ⟨p, 0, none⟩ = some (.int .i64 me) := ⟨HX2.out.cell 0, HX2.out.cell 1, HL2.out.cell 0⟩
  repeat (first | (refine seq_skip (by rfl) ?_; try simp only [Act.put, List.setIfInBounds_toArray, List.set_cons_zero, List.set_cons_succ]) | (refine seq_not (by rfl) (by assumption) ?_; try simp only [Act.put, List.setIfInBounds_toArray, List.set_cons_zero, List.set_cons_succ]) | (refine seq_take (v := ?_) (by rfl) ?_ ?_; rotate_left; (focus ((intro w hSw; (try dsimp only at hSw); go_simp; (try with_reducible rfl)); done)); try simp only [Act.put, List.setIfInBounds_toArray, List.set_cons_zero, List.set_cons_succ]))
  refine seq_done ?_
  clear hHeld
  have y0 : w2.cell? ⟨w.heap.size, 0, none⟩ = some (.int .i64 a) := HX2.out.cell 0
  have y1 : w2.cell? ⟨w.heap.size, 1, none⟩ = some (.int .i64 b) := HX2.out.cell 1
  have z0 : w2.cell? ⟨p, 0, none⟩ = some (.int .i64 me) := HL2.out.cell 0
  have z1 : w2.cell? ⟨p, 1, none⟩ = some (.int .i64 l) := HL2.out.cell 1
  have z2 : w2.cell? ⟨p, 2, none⟩ = some (.int .i64 q) := HL2.out.cell 2
  go_wp2
  clear y0 y1 z0 z1 z2
  refine wp_region_seq [(0, true), (1, true), (2, true), (3, true), (4, true), (5, true), (6, true), (7, true), (8, true), (9, true), (10, true), (11, true)] (fun w' => w'.cell? ⟨w.heap.size, 0, none⟩ = some (.int .i64 a) ∧ w'.cell? ⟨p, 2, none⟩ = some (.int .i64 q)) (by kernel_rfl) (by kernel_rfl) ⟨HX2.out.drew.cell 0, HL2.out.drew.cell 2⟩ (fun hHeld => ?_)
  simp only [List.map_cons, List.map_nil, List.getElem?_toArray, List.getElem?_cons_zero, List.getElem?_cons_succ]
  repeat (first | (refine seq_skip (by rfl) ?_; try simp only [Act.put, List.setIfInBounds_toArray, List.set_cons_zero, List.set_cons_succ]) | (refine seq_not (by rfl) (by assumption) ?_; try simp only [Act.put, List.setIfInBounds_toArray, List.set_cons_zero, List.set_cons_succ]) | (refine seq_take (v := ?_) (by rfl) ?_ ?_; rotate_left; (focus ((intro w hSw; (try dsimp only at hSw); go_simp; (try with_reducible rfl)); done)); try simp only [Act.put, List.setIfInBounds_toArray, List.set_cons_zero, List.set_cons_succ]))
  refine seq_done ?_
  clear hHeld
  go_wp2
  refine wp_region_seq [(0, true), (1, true), (2, true), (3, true), (4, true), (5, true), (6, true), (7, true), (8, true), (9, true), (10, true), (11, true), (12, true), (13, true), (14, true), (15, true), (16, true), (17, true), (18, true), (19, true), (20, true), (21, true), (22, true), (23, true), (24, true), (25, true), (26, true), (27, true), (28, true), (29, true), (30, true), (31, true), (32, true), (33, true), (34, true), (35, true), (36, true), (37, true), (38, true), (39, true), (40, true), (41, true), (42, true), (43, true)] (fun w' => w'.cell? ⟨w.heap.size, 0, none⟩ = some (.int .i64 a) ∧ w'.cell? ⟨p, 1, none⟩ = some (.int .i64 l) ∧ w'.cell? ⟨p, 2, none⟩ = some (.int .i64 q)) (by kernel_rfl) (by kernel_rfl) ⟨HX2.out.drew.drew.cell 0, HL2.out.drew.drew.cell 1, HL2.out.drew.drew.cell 2⟩ (fun hHeld => ?_)
  simp only [List.map_cons, List.map_nil, List.getElem?_toArray, List.getElem?_cons_zero, List.getElem?_cons_succ]
  repeat (first | (refine seq_skip (by rfl) ?_; try simp only [Act.put, List.setIfInBounds_toArray, List.set_cons_zero, List.set_cons_succ]) | (refine seq_not (by rfl) (by assumption) ?_; try simp only [Act.put, List.setIfInBounds_toArray, List.set_cons_zero, List.set_cons_succ]) | (refine seq_take (v := ?_) (by rfl) ?_ ?_; rotate_left; (focus ((intro w hSw; (try dsimp only at hSw); go_simp; (try with_reducible rfl)); done)); try simp only [Act.put, List.setIfInBounds_toArray, List.set_cons_zero, List.set_cons_succ]))
  refine seq_done ?_
  clear hHeld
  have HX5 := Lib.hid (HX2.out.drew.drew)
  have HL5 := Lib.hid (HL2.out.drew.drew)
  have HB5 := Lib.hid (below_drew_ (below_drew_ HB2.out))
  generalize w2.drew.drew = w5 at *
  have y0 : w5.cell? ⟨w.heap.size, 0, none⟩ = some (.int .i64 a) := HX5.out.cell 0
  have z1 : w5.cell? ⟨p, 1, none⟩ = some (.int .i64 l) := HL5.out.cell 1
  have z2 : w5.cell? ⟨p, 2, none⟩ = some (.int .i64 q) := HL5.out.cell 2
  have f1 := HL5.out.frozen 1
  have f2 := HL5.out.frozen 2
  have hne : ¬ w.heap.size = p := by omega
  clear hwr
  go_wp2
  go_region
  go_wp2
  go_ret
  exact ⟨rfl, ((HL5.out.set_ 1 (.int .i64 (b + 1))).set_ 2 (.int .i64 a)).drew, (((Kp.of_below (S := fun k => k = p) HB5.out).set_ ⟨p, 1, none⟩ (.inl rfl) _).set_ ⟨p, 2, none⟩ (.inl rfl) _).drew⟩
theorem hear_yes3 (p : Nat) (me l q a b : Int) (w : World) (h : Lv w p me l q) (hg : okFind a b = true) (hm : (a == me) = false) (hq : (a == q) = true) (hb63 : ¬ 63 < b + 1) (hb0 : 0 ≤ b) (hl : (b + 1 == l) = false) :
    Calls Try.prog 9 #[.pointer (some ⟨p, 0, none⟩), .agg #[.int .i64 a, .int .i64 b]] w fun e w' => e = .returned (.bool true) ∧ Lv w' p me (b + 1) a ∧ Kp (fun k => k = p) w w' := by
  have hbd : decide (63 < b + 1) = false := decide_eq_false hb63
  have hwr : IntKind.i64.wrap (b + 1) = b + 1 := IntWalk.i64_in _ (by omega)
  have hq2 : (a != q) = false := by simpa using hq
  have hb : Below w.heap.size w (w.alloc (.cells #[.int .i64 a, .int .i64 b] 30)) := (Below.refl _ w).alloc (Nat.le_refl _) _
  have hx : Blk (w.alloc (.cells #[.int .i64 a, .int .i64 b] 30)) w.heap.size 30 #[.int .i64 a, .int .i64 b] := Blk.new w _ _
  have hl : Blk (w.alloc (.cells #[.int .i64 a, .int .i64 b] 30)) p 47 #[.int .i64 me, .int .i64 l, .int .i64 q] := h.alloc _
  have HB := Lib.hid hb
  have HX := Lib.hid hx
  have HL := Lib.hid hl
  have hpb : p < w.heap.size := h.lt
  have hG := fun w => good_find a b w
  rw [show ([⟨1, a, 63⟩, ⟨1, b, 63⟩] : List Fld).all Fld.ok = true from hg] at hG
  have HG := Lib.hid hG
  clear hb hx hl h hg hG
  go_enter Try.func9, Try.ntmps9
  go_wp2
  generalize hw1 : w.alloc (.cells #[.int .i64 a, .int .i64 b] 30) = w1 at HB HX HL ⊢
  clear hw1
  refine wp_region_seq [(0, true), (1, true), (2, true), (3, true), (4, true), (5, false), (6, true), (7, true), (8, true), (9, true), (10, true), (11, true), (12, true), (13, true), (14, true), (15, true), (16, true)] (fun w' => w'.cell? ⟨w.heap.size, 0, none⟩ = some (.int .i64 a) ∧ w'.cell? ⟨w.heap.size, 1, none⟩ = some (.int .i64 b) ∧ w'.cell? ⟨p, 0, none⟩ = some (.int .i64 me)) (by kernel_rfl) (by kernel_rfl) ⟨HX.out.drew.cell 0, HX.out.drew.cell 1, HL.out.drew.cell 0⟩ (fun hHeld => ?_)
  simp only [List.map_cons, List.map_nil, List.getElem?_toArray, List.getElem?_cons_zero, List.getElem?_cons_succ]
  repeat (first | (refine seq_skip (by rfl) ?_; try simp only [Act.put, List.setIfInBounds_toArray, List.set_cons_zero, List.set_cons_succ]) | (refine seq_not (by rfl) (by assumption) ?_; try simp only [Act.put, List.setIfInBounds_toArray, List.set_cons_zero, List.set_cons_succ]) | (refine seq_take (v := ?_) (by rfl) ?_ ?_; rotate_left; (focus ((intro w hSw; (try dsimp only at hSw); go_simp; (try with_reducible rfl)); done)); try simp only [Act.put, List.setIfInBounds_toArray, List.set_cons_zero, List.set_cons_succ]))
  refine seq_do (fun K hK => ?_)
  go_simp
  go_at_call 11
  with_reducible refine Calls.mono (HG.out _) ?_
  rintro e w2 ⟨rfl, hb⟩
  have HX2 := Lib.hid (HX.out.drew.keeps hb)
  have HL2 := Lib.hid (HL.out.drew.keeps hb)
  dsimp only
  refine hK.out _ _ ⟨HX2.out.cell 0, HX2.out.cell 1, HL2.out.cell 0⟩ (fun hHeld => ?_)
  clear hK K
  have HB2 := Lib.hid ((below_drew_ HB.out).trans (hb.mono HB.out.size))
  clear hb hHeld
  have hHeld : w2.cell? ⟨w.heap.size, 0, none⟩ = some (.int .i64 a) ∧ w2.cell? ⟨w.heap.size, 1, none⟩ = some (.int .i64 b) ∧ w2.cell? ⟨p, 0, none⟩ = some (.int .i64 me) := ⟨HX2.out.cell 0, HX2.out.cell 1, HL2.out.cell 0⟩
  repeat (first | (refine seq_skip (by rfl) ?_; try simp only [Act.put, List.setIfInBounds_toArray, List.set_cons_zero, List.set_cons_succ]) | (refine seq_not (by rfl) (by assumption) ?_; try simp only [Act.put, List.setIfInBounds_toArray, List.set_cons_zero, List.set_cons_succ]) | (refine seq_take (v := ?_) (by rfl) ?_ ?_; rotate_left; (focus ((intro w hSw; (try dsimp only at hSw); go_simp; (try with_reducible rfl)); done)); try simp only [Act.put, List.setIfInBounds_toArray, List.set_cons_zero, List.set_cons_succ]))
  refine seq_done ?_
  clear hHeld
  have y0 : w2.cell? ⟨w.heap.size, 0, none⟩ = some (.int .i64 a) := HX2.out.cell 0
  have y1 : w2.cell? ⟨w.heap.size, 1, none⟩ = some (.int .i64 b) := HX2.out.cell 1
  have z0 : w2.cell? ⟨p, 0, none⟩ = some (.int .i64 me) := HL2.out.cell 0
  have z1 : w2.cell? ⟨p, 1, none⟩ = some (.int .i64 l) := HL2.out.cell 1
  have z2 : w2.cell? ⟨p, 2, none⟩ = some (.int .i64 q) := HL2.out.cell 2
  go_wp2
  clear y0 y1 z0 z1 z2
  refine wp_region_seq [(0, true), (1, true), (2, true), (3, true), (4, true), (5, true), (6, true), (7, true), (8, true), (9, true), (10, true), (11, true)] (fun w' => w'.cell? ⟨w.heap.size, 0, none⟩ = some (.int .i64 a) ∧ w'.cell? ⟨p, 2, none⟩ = some (.int .i64 q)) (by kernel_rfl) (by kernel_rfl) ⟨HX2.out.drew.cell 0, HL2.out.drew.cell 2⟩ (fun hHeld => ?_)
  simp only [List.map_cons, List.map_nil, List.getElem?_toArray, List.getElem?_cons_zero, List.getElem?_cons_succ]
  repeat (first | (refine seq_skip (by rfl) ?_; try simp only [Act.put, List.setIfInBounds_toArray, List.set_cons_zero, List.set_cons_succ]) | (refine seq_not (by rfl) (by assumption) ?_; try simp only [Act.put, List.setIfInBounds_toArray, List.set_cons_zero, List.set_cons_succ]) | (refine seq_take (v := ?_) (by rfl) ?_ ?_; rotate_left; (focus ((intro w hSw; (try dsimp only at hSw); go_simp; (try with_reducible rfl)); done)); try simp only [Act.put, List.setIfInBounds_toArray, List.set_cons_zero, List.set_cons_succ]))
  refine seq_done ?_
  clear hHeld
  go_wp2
  refine wp_region_seq [(0, true), (1, true), (2, true), (3, true), (4, true), (5, true), (6, true), (7, true), (8, true), (9, true), (10, true), (11, true), (12, true), (13, true), (14, true), (15, true), (16, true), (17, true), (18, true), (19, true), (20, true), (21, true), (22, true), (23, true), (24, true), (25, true), (26, true), (27, true), (28, true), (29, true), (30, true), (31, true), (32, true), (33, true), (34, true), (35, true), (36, true), (37, true), (38, true), (39, true), (40, true), (41, true), (42, true), (43, true)] (fun w' => w'.cell? ⟨w.heap.size, 0, none⟩ = some (.int .i64 a) ∧ w'.cell? ⟨p, 1, none⟩ = some (.int .i64 l) ∧ w'.cell? ⟨p, 2, none⟩ = some (.int .i64 q)) (by kernel_rfl) (by kernel_rfl) ⟨HX2.out.drew.drew.cell 0, HL2.out.drew.drew.cell 1, HL2.out.drew.drew.cell 2⟩ (fun hHeld => ?_)
  simp only [List.map_cons, List.map_nil, List.getElem?_toArray, List.getElem?_cons_zero, List.getElem?_cons_succ]
  repeat (first | (refine seq_skip (by rfl) ?_; try simp only [Act.put, List.setIfInBounds_toArray, List.set_cons_zero, List.set_cons_succ]) | (refine seq_not (by rfl) (by assumption) ?_; try simp only [Act.put, List.setIfInBounds_toArray, List.set_cons_zero, List.set_cons_succ]) | (refine seq_take (v := ?_) (by rfl) ?_ ?_; rotate_left; (focus ((intro w hSw; (try dsimp only at hSw); go_simp; (try with_reducible rfl)); done)); try simp only [Act.put, List.setIfInBounds_toArray, List.set_cons_zero, List.set_cons_succ]))
  refine seq_done ?_
  clear hHeld
  have HX5 := Lib.hid (HX2.out.drew.drew)
  have HL5 := Lib.hid (HL2.out.drew.drew)
  have HB5 := Lib.hid (below_drew_ (below_drew_ HB2.out))
  generalize w2.drew.drew = w5 at *
  have y0 : w5.cell? ⟨w.heap.size, 0, none⟩ = some (.int .i64 a) := HX5.out.cell 0
  have z1 : w5.cell? ⟨p, 1, none⟩ = some (.int .i64 l) := HL5.out.cell 1
  have z2 : w5.cell? ⟨p, 2, none⟩ = some (.int .i64 q) := HL5.out.cell 2
  have f1 := HL5.out.frozen 1
  have f2 := HL5.out.frozen 2
  have hne : ¬ w.heap.size = p := by omega
  clear hwr
  go_wp2
  go_region
  go_wp2
  go_ret
  exact ⟨rfl, ((HL5.out.set_ 1 (.int .i64 (b + 1))).set_ 2 (.int .i64 a)).drew, (((Kp.of_below (S := fun k => k = p) HB5.out).set_ ⟨p, 1, none⟩ (.inl rfl) _).set_ ⟨p, 2, none⟩ (.inl rfl) _).drew⟩
/-- Whatever is heard. -/
theorem hear_ok (p : Nat) (me l q a b : Int) (w : World) (h : Lv w p me l q) :
    Calls Try.prog 9 #[.pointer (some ⟨p, 0, none⟩), .agg #[.int .i64 a, .int .i64 b]] w fun e w' => e = .returned (.bool (hear me l q a b).1) ∧ Lv w' p me (hear me l q a b).2.1 (hear me l q a b).2.2 ∧ Kp (fun k => k = p) w w' := by
  have no : ∀ {w' : World}, Below w.heap.size w w' → Lv w' p me l q ∧ Kp (fun k => k = p) w w' := fun hb => ⟨h.keeps hb, Kp.of_below hb⟩
  unfold hear
  by_cases hg : okFind a b = true
  rotate_left
  · have hg : okFind a b = false := by simpa using hg
    rw [if_pos (.inl hg)]
    exact (hear_bad p me l q a b w h hg).mono fun e w' ⟨h1, h2⟩ => ⟨h1, no h2⟩
  have hgg := (okFind_iff a b).1 hg
  by_cases hm : a = me
  · subst hm
    rw [if_pos (.inr rfl)]
    exact (hear_self p l q a b w h hg).mono fun e w' ⟨h1, h2⟩ => ⟨h1, no h2⟩
  rw [if_neg (by simp [hg, hm])]
  have hm2 : (a == me) = false := by simpa using hm
  by_cases hb63 : 63 < b + 1
  · by_cases hq : a = q
    · rw [if_pos ⟨hq, hb63⟩]
      exact hear_lost p me l q a b w h hg hm2 (by simpa using hq) hb63 (by omega)
    · rw [if_neg (fun h => hq h.1), if_pos (.inl hb63)]
      exact (hear_no1 p me l q a b w h hg hm2 (by simpa using hq) hb63 (by omega)).mono fun e w' ⟨h1, h2⟩ => ⟨h1, no h2⟩
  rw [if_neg (fun h => hb63 h.2)]
  by_cases hq : a = q
  · by_cases hl : b + 1 = l
    · rw [if_pos (.inr (.inr ⟨hq, hl⟩))]
      exact (hear_no3 p me l q a b w h hg hm2 (by simpa using hq) hb63 (by omega) (by simpa using hl)).mono fun e w' ⟨h1, h2⟩ => ⟨h1, no h2⟩
    · rw [if_neg (by omega)]
      exact hear_yes3 p me l q a b w h hg hm2 (by simpa using hq) hb63 (by omega) (by simpa using hl)
  · by_cases hl0 : 0 ≤ l
    · by_cases hlb : l ≤ b + 1
      · rw [if_pos (.inr (.inl ⟨hq, hl0, hlb⟩))]
        exact (hear_no2 p me l q a b w h hg hm2 (by simpa using hq) hb63 hl0 hlb).mono fun e w' ⟨h1, h2⟩ => ⟨h1, no h2⟩
      · rw [if_neg (by omega)]
        exact hear_yes2 p me l q a b w h hg hm2 (by simpa using hq) hb63 (by omega) hl0 (by omega)
    · rw [if_neg (by omega)]
      exact hear_yes1 p me l q a b w h hg hm2 (by simpa using hq) hb63 (by omega) (by omega)
end Go.Proofs.Yteeeolagnndcaac.Lev
