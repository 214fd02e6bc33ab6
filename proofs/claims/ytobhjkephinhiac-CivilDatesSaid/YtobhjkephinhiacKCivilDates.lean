/- Good, Number, Of and Text answer what the document says, of all dates and numbers. No condition. -/
import Derived.Test.YtobhjkephinhiacCivilMore
namespace Go.Proofs.Ytobhjkephinhiac.CivilDatesW
open Go.RowKit Go.Proofs.Ytobhjkephinhiac.Bk Go.Proofs.Ytobhjkephinhiac.Rw Go.Proofs.Ytobhjkephinhiac.Ow Go.Proofs.Ytobhjkephinhiac.Kp Go.Proofs.Ytobhjkephinhiac.Str Go.Proofs.Ytobhjkephinhiac.Civil

/-- The date's box, its copy, and all behind them. -/
structure Dd (W w : World) (p : Nat) (y m d : Int) : Prop where
  a : Blk w W.heap.size 24 #[.int .i64 y, .int .i64 m, .int .i64 d]
  b : Blk w p 27 #[.int .i64 y, .int .i64 m, .int .i64 d]
  below : Below W.heap.size W w
theorem Dd.next {W w w' : World} {p : Nat} {y m d : Int} (h : Dd W w p y m d) (hb : Below w.heap.size w w') : Dd W w' p y m d := ⟨h.a.keeps hb, h.b.keeps hb, h.below.trans (hb.mono h.below.size)⟩
theorem Dd.drew {W w : World} {p : Nat} {y m d : Int} (h : Dd W w p y m d) : Dd W w.drew p y m d := ⟨h.a.drew, h.b.drew, below_drew_ h.below⟩
theorem Dd.step {W w1 w3 : World} {p : Nat} {y m d : Int} (hb : Below w1.heap.size w1 w3) (h : Dd W w1 p y m d) : Hid (Dd W w3 p y m d) ∧ (w3.cell? ⟨W.heap.size, 0, none⟩ = some (.int .i64 y) ∧ w3.cell? ⟨W.heap.size, 1, none⟩ = some (.int .i64 m) ∧ w3.cell? ⟨W.heap.size, 2, none⟩ = some (.int .i64 d) ∧ w3.cell? ⟨p, 0, none⟩ = some (.int .i64 y) ∧ w3.cell? ⟨p, 1, none⟩ = some (.int .i64 m) ∧ w3.cell? ⟨p, 2, none⟩ = some (.int .i64 d)) :=
  ⟨Lib.hid (h.next hb), (h.next hb).a.cell 0, (h.next hb).a.cell 1, (h.next hb).a.cell 2, (h.next hb).b.cell 0, (h.next hb).b.cell 1, (h.next hb).b.cell 2⟩

set_option maxRecDepth 100000 in
set_option maxHeartbeats 4000000 in
set_option linter.unusedVariables false in
theorem walk (a0_0 : Int) (a0_1 : Int) (a0_2 : Int) (a1 : Int) (W : World) (w0_0 : (Lit.int .i64 a0_0).wf = true) (w0_1 : (Lit.int .i64 a0_1).wf = true) (w0_2 : (Lit.int .i64 a0_2).wf = true) (w1 : (Lit.int .i64 a1).wf = true) :
    Calls Try.prog 6 #[.agg #[.int .i64 a0_0, .int .i64 a0_1, .int .i64 a0_2], .int .i64 a1] W fun e w' => e = .returned (.bool true) ∧ Below W.heap.size W w' := by
  clear w0_0 w0_1 w0_2
  have RG := Lib.hid (fun w => refgood_ok a0_0 a0_1 a0_2 w)
  have PG := Lib.hid (fun w => good_ok a0_0 a0_1 a0_2 w)
  have OF := Lib.hid (fun w => of_ok a1 w)
  have HD := Lib.hid (show Blk (W.alloc (.cells #[.int .i64 a0_0, .int .i64 a0_1, .int .i64 a0_2] 24)) W.heap.size 24 #[.int .i64 a0_0, .int .i64 a0_1, .int .i64 a0_2] ∧ Below W.heap.size W (W.alloc (.cells #[.int .i64 a0_0, .int .i64 a0_1, .int .i64 a0_2] 24)) from ⟨Blk.new _ _ _, (Below.refl _ W).alloc (Nat.le_refl _) _⟩)
  cases ga : gd a0_0 a0_1 a0_2
  · have PN := Lib.hid (fun w => num_no a0_0 a0_1 a0_2 w ga)
    have PT := Lib.hid (fun w => text_no a0_0 a0_1 a0_2 w ga)
    have RT := Lib.hid (fun w => reftext_no a0_0 a0_1 a0_2 w ga)
    rw [ga] at RG PG
    unfold date at RG PG PN PT RT
    clear ga
    go_enter Try.func6, Try.ntmps6
    go_wp2_with fail
    refine (alive_ok _).mono ?_
    rintro e w1 ⟨rfl, hb⟩
    have hbk := HD.out.1.keeps hb
    have c0 : w1.cell? ⟨W.heap.size, 0, none⟩ = some (.int .i64 a0_0) := hbk.cell 0
    have c1 : w1.cell? ⟨W.heap.size, 1, none⟩ = some (.int .i64 a0_1) := hbk.cell 1
    have c2 : w1.cell? ⟨W.heap.size, 2, none⟩ = some (.int .i64 a0_2) := hbk.cell 2
    have D1 := Lib.hid (show Dd W (w1.alloc (.cells #[.int .i64 a0_0, .int .i64 a0_1, .int .i64 a0_2] 27)) w1.heap.size a0_0 a0_1 a0_2 from ⟨hbk.alloc _, Blk.new _ _ _, (HD.out.2.trans (hb.mono (by simp))).alloc (Nat.le_trans (by simp) hb.size) _⟩)
    clear hb HD hbk
    go_wp2_with fail
    refine (RG.out _).mono ?_
    rintro e w2 ⟨rfl, hb⟩
    obtain ⟨D2, x2⟩ := Dd.step hb D1.out
    clear hb D1 c0 c1 c2
    generalize w1.heap.size = p at D2 x2 ⊢
    go_wp2_with fail
    refine (PN.out _).mono ?_
    rintro e w3 ⟨rfl, hb⟩
    obtain ⟨D3, x3⟩ := Dd.step hb D2.out
    clear hb D2 x2
    go_wp2
    refine wp_region_noPanic ?_
    refine wp_region_held_drew (S := (fun w' => w'.cell? ⟨W.heap.size, 0, none⟩ = some (.int .i64 a0_0) ∧ w'.cell? ⟨W.heap.size, 1, none⟩ = some (.int .i64 a0_1) ∧ w'.cell? ⟨W.heap.size, 2, none⟩ = some (.int .i64 a0_2) ∧ w'.cell? ⟨p, 0, none⟩ = some (.int .i64 a0_0) ∧ w'.cell? ⟨p, 1, none⟩ = some (.int .i64 a0_1) ∧ w'.cell? ⟨p, 2, none⟩ = some (.int .i64 a0_2))) (by kernel_rfl) ?_ (fun hHeld => ?_)
    · first | assumption | go_keep
    refine wpAnyH_take (i := 0) (oi := ({ dst := some 21, op := Op.load 24 (Operand.tmp 2), type := 24, pos := "law.go:25", after := #[], guard := none } : Oper)) (v := ?_) rfl (by kernel_rfl) (by kernel_rfl) (by kernel_rfl) (fun _ _ _ h => h) (Or.inl ⟨by rfl, ?_⟩) (by assumption) ?_
    rotate_left
    · (intro w hSw; (try dsimp only at hSw); go_simp; try with_reducible rfl)
    try simp only [Act.put, List.setIfInBounds_toArray, List.set_cons_zero, List.set_cons_succ]
    refine wpAnyH_take (i := 2) (oi := ({ dst := some 23, op := Op.move (Operand.tmp 6), type := 4, pos := "law.go:25", after := #[], guard := none } : Oper)) (v := ?_) rfl (by kernel_rfl) (by kernel_rfl) (by kernel_rfl) (fun _ _ _ h => h) (Or.inl ⟨by rfl, ?_⟩) (by assumption) ?_
    rotate_left
    · (intro w hSw; (try dsimp only at hSw); go_simp; try with_reducible rfl)
    try simp only [Act.put, List.setIfInBounds_toArray, List.set_cons_zero, List.set_cons_succ]
    refine wpAnyH_ready (rs := [1]) (by kernel_rfl) (by simp) ?_
    refine AllReadyH.cons (o := ({ dst := some 22, op := Op.call { callee := Callee.value (Operand.func 15), args := #[Operand.tmp 21], argTypes := #[24] }, type := 4, pos := "law.go:25", after := #[{ on := 0, ground := Ground.data }], guard := none } : Oper)) rfl (fun K hK => ?_) AllReadyH.nil
    go_simp
    with_reducible refine Calls.mono (PG.out _) ?_
    rintro e w4 ⟨rfl, hb⟩
    obtain ⟨D4, x4⟩ := Dd.step (W := W) (p := p) (y := a0_0) (m := a0_1) (d := a0_2) hb (by first | exact D3.out | exact Dd.drew D3.out)
    clear hb
    go_wp2_with fail
    clear hHeld
    refine hK.out _ _ ?_ (fun hHeld => ?_)
    · first | assumption | go_keep
    clear hK K
    try simp only [Act.put, List.setIfInBounds_toArray, List.set_cons_zero, List.set_cons_succ]
    refine wpAnyH_take (i := 3) (oi := ({ dst := some 24, op := Op.binOp BinOp.neq 4 (Operand.tmp 22) (Operand.tmp 23) 4, type := 4, pos := "law.go:25", after := #[{ on := 1, ground := Ground.data }, { on := 2, ground := Ground.data }], guard := none } : Oper)) (v := ?_) rfl (by kernel_rfl) (by kernel_rfl) (by kernel_rfl) (fun _ _ _ h => h) (Or.inl ⟨by rfl, ?_⟩) (by assumption) ?_
    rotate_left
    · (intro w hSw; (try dsimp only at hSw); go_simp; try with_reducible rfl)
    try simp only [Act.put, List.setIfInBounds_toArray, List.set_cons_zero, List.set_cons_succ]
    refine wpAnyH_take (i := 4) (oi := ({ dst := some 25, op := Op.move (Operand.tmp 24), type := 4, pos := "law.go:25", after := #[{ on := 3, ground := Ground.data }, { on := 1, ground := Ground.chain }], guard := none } : Oper)) (v := ?_) rfl (by kernel_rfl) (by kernel_rfl) (by kernel_rfl) (fun _ _ _ h => h) (Or.inl ⟨by rfl, ?_⟩) (by assumption) ?_
    rotate_left
    · (intro w hSw; (try dsimp only at hSw); go_simp; try with_reducible rfl)
    try simp only [Act.put, List.setIfInBounds_toArray, List.set_cons_zero, List.set_cons_succ]
    refine wpAnyH_take (i := 5) (oi := ({ dst := some 26, op := Op.move (Operand.tmp 8), type := 4, pos := "law.go:25", after := #[{ on := 4, ground := Ground.guard }], guard := some (4, false) } : Oper)) (v := ?_) rfl (by kernel_rfl) (by kernel_rfl) (by kernel_rfl) (fun _ _ _ h => h) (Or.inl ⟨by rfl, ?_⟩) (by assumption) ?_
    rotate_left
    · (intro w hSw; (try dsimp only at hSw); go_simp; try with_reducible rfl)
    try simp only [Act.put, List.setIfInBounds_toArray, List.set_cons_zero, List.set_cons_succ]
    refine wpAnyH_take (i := 6) (oi := ({ dst := some 27, op := Op.move (Operand.tmp 6), type := 4, pos := "law.go:25", after := #[{ on := 4, ground := Ground.guard }], guard := some (4, false) } : Oper)) (v := ?_) rfl (by kernel_rfl) (by kernel_rfl) (by kernel_rfl) (fun _ _ _ h => h) (Or.inl ⟨by rfl, ?_⟩) (by assumption) ?_
    rotate_left
    · (intro w hSw; (try dsimp only at hSw); go_simp; try with_reducible rfl)
    try simp only [Act.put, List.setIfInBounds_toArray, List.set_cons_zero, List.set_cons_succ]
    refine wpAnyH_take (i := 7) (oi := ({ dst := some 28, op := Op.binOp BinOp.neq 4 (Operand.tmp 26) (Operand.tmp 27) 4, type := 4, pos := "law.go:25", after := #[{ on := 5, ground := Ground.data }, { on := 6, ground := Ground.data }, { on := 4, ground := Ground.guard }], guard := some (4, false) } : Oper)) (v := ?_) rfl (by kernel_rfl) (by kernel_rfl) (by kernel_rfl) (fun _ _ _ h => h) (Or.inl ⟨by rfl, ?_⟩) (by assumption) ?_
    rotate_left
    · (intro w hSw; (try dsimp only at hSw); go_simp; try with_reducible rfl)
    try simp only [Act.put, List.setIfInBounds_toArray, List.set_cons_zero, List.set_cons_succ]
    refine wpAnyH_take (i := 8) (oi := ({ dst := some 29, op := Op.pick (Operand.tmp 25) (Operand.const (Value.bool true)) (Operand.tmp 28), type := 4, pos := "law.go:25", after := #[{ on := 4, ground := Ground.data }, { on := 7, ground := Ground.data }], guard := none } : Oper)) (v := ?_) rfl (by kernel_rfl) (by kernel_rfl) (by kernel_rfl) (fun _ _ _ h => h) (Or.inl ⟨by rfl, ?_⟩) (by assumption) ?_
    rotate_left
    · (intro w hSw; (try dsimp only at hSw); go_simp; try with_reducible rfl)
    try simp only [Act.put, List.setIfInBounds_toArray, List.set_cons_zero, List.set_cons_succ]
    refine wpAnyH_take (i := 9) (oi := ({ dst := some 30, op := Op.move (Operand.tmp 29), type := 4, pos := "law.go:25", after := #[{ on := 8, ground := Ground.data }, { on := 4, ground := Ground.chain }], guard := none } : Oper)) (v := ?_) rfl (by kernel_rfl) (by kernel_rfl) (by kernel_rfl) (fun _ _ _ h => h) (Or.inl ⟨by rfl, ?_⟩) (by assumption) ?_
    rotate_left
    · (intro w hSw; (try dsimp only at hSw); go_simp; try with_reducible rfl)
    try simp only [Act.put, List.setIfInBounds_toArray, List.set_cons_zero, List.set_cons_succ]
    refine wpAnyH_take (i := 10) (oi := ({ dst := some 31, op := Op.load 24 (Operand.tmp 2), type := 24, pos := "law.go:25", after := #[{ on := 9, ground := Ground.guard }], guard := some (9, false) } : Oper)) (v := ?_) rfl (by kernel_rfl) (by kernel_rfl) (by kernel_rfl) (fun _ _ _ h => h) (Or.inl ⟨by rfl, ?_⟩) (by assumption) ?_
    rotate_left
    · (intro w hSw; (try dsimp only at hSw); go_simp; try with_reducible rfl)
    try simp only [Act.put, List.setIfInBounds_toArray, List.set_cons_zero, List.set_cons_succ]
    refine wpAnyH_take (i := 12) (oi := ({ dst := some 33, op := Op.load 27 (Operand.tmp 5), type := 27, pos := "law.go:25", after := #[{ on := 9, ground := Ground.guard }], guard := some (9, false) } : Oper)) (v := ?_) rfl (by kernel_rfl) (by kernel_rfl) (by kernel_rfl) (fun _ _ _ h => h) (Or.inl ⟨by rfl, ?_⟩) (by assumption) ?_
    rotate_left
    · (intro w hSw; (try dsimp only at hSw); go_simp; try with_reducible rfl)
    try simp only [Act.put, List.setIfInBounds_toArray, List.set_cons_zero, List.set_cons_succ]
    refine wpAnyH_ready (rs := [11]) (by kernel_rfl) (by simp) ?_
    refine AllReadyH.cons (o := ({ dst := some 32, op := Op.call { callee := Callee.value (Operand.func 11), args := #[Operand.tmp 31], argTypes := #[24] }, type := 9, pos := "law.go:25", after := #[{ on := 10, ground := Ground.data }, { on := 9, ground := Ground.chain }, { on := 9, ground := Ground.guard }], guard := some (9, false) } : Oper)) rfl (fun K hK => ?_) AllReadyH.nil
    go_simp
    with_reducible refine Calls.mono (PT.out _) ?_
    rintro e w5 ⟨rfl, hb⟩
    obtain ⟨D5, x5⟩ := Dd.step (W := W) (p := p) (y := a0_0) (m := a0_1) (d := a0_2) hb (by first | exact D4.out | exact Dd.drew D4.out)
    clear hb
    go_wp2_with fail
    clear hHeld
    refine hK.out _ _ ?_ (fun hHeld => ?_)
    · first | assumption | go_keep
    clear hK K
    try simp only [Act.put, List.setIfInBounds_toArray, List.set_cons_zero, List.set_cons_succ]
    refine wpAnyH_ready (rs := [13]) (by kernel_rfl) (by simp) ?_
    refine AllReadyH.cons (o := ({ dst := some 34, op := Op.call { callee := Callee.value (Operand.func 16), args := #[Operand.tmp 33], argTypes := #[27] }, type := 9, pos := "law.go:25", after := #[{ on := 12, ground := Ground.data }, { on := 11, ground := Ground.chain }, { on := 9, ground := Ground.guard }], guard := some (9, false) } : Oper)) rfl (fun K hK => ?_) AllReadyH.nil
    go_simp
    with_reducible refine Calls.mono (RT.out _) ?_
    rintro e w6 ⟨rfl, hb⟩
    obtain ⟨D6, x6⟩ := Dd.step (W := W) (p := p) (y := a0_0) (m := a0_1) (d := a0_2) hb (by first | exact D5.out | exact Dd.drew D5.out)
    clear hb
    go_wp2_with fail
    clear hHeld
    refine hK.out _ _ ?_ (fun hHeld => ?_)
    · first | assumption | go_keep
    clear hK K
    try simp only [Act.put, List.setIfInBounds_toArray, List.set_cons_zero, List.set_cons_succ]
    refine wpAnyH_take (i := 14) (oi := ({ dst := some 35, op := Op.binOp BinOp.neq 9 (Operand.tmp 32) (Operand.tmp 34) 9, type := 4, pos := "law.go:25", after := #[{ on := 11, ground := Ground.data }, { on := 13, ground := Ground.data }, { on := 9, ground := Ground.guard }], guard := some (9, false) } : Oper)) (v := ?_) rfl (by kernel_rfl) (by kernel_rfl) (by kernel_rfl) (fun _ _ _ h => h) (Or.inl ⟨by rfl, ?_⟩) (by assumption) ?_
    rotate_left
    · (intro w hSw; (try dsimp only at hSw); go_simp; try with_reducible rfl)
    try simp only [Act.put, List.setIfInBounds_toArray, List.set_cons_zero, List.set_cons_succ]
    refine wpAnyH_take (i := 15) (oi := ({ dst := some 36, op := Op.pick (Operand.tmp 30) (Operand.const (Value.bool true)) (Operand.tmp 35), type := 4, pos := "law.go:25", after := #[{ on := 9, ground := Ground.data }, { on := 14, ground := Ground.data }], guard := none } : Oper)) (v := ?_) rfl (by kernel_rfl) (by kernel_rfl) (by kernel_rfl) (fun _ _ _ h => h) (Or.inl ⟨by rfl, ?_⟩) (by assumption) ?_
    rotate_left
    · (intro w hSw; (try dsimp only at hSw); go_simp; try with_reducible rfl)
    try simp only [Act.put, List.setIfInBounds_toArray, List.set_cons_zero, List.set_cons_succ]
    refine wpAnyH_take (i := 16) (oi := ({ dst := some 37, op := Op.move (Operand.tmp 36), type := 4, pos := "law.go:25", after := #[{ on := 15, ground := Ground.data }, { on := 13, ground := Ground.chain }], guard := none } : Oper)) (v := ?_) rfl (by kernel_rfl) (by kernel_rfl) (by kernel_rfl) (fun _ _ _ h => h) (Or.inl ⟨by rfl, ?_⟩) (by assumption) ?_
    rotate_left
    · (intro w hSw; (try dsimp only at hSw); go_simp; try with_reducible rfl)
    try simp only [Act.put, List.setIfInBounds_toArray, List.set_cons_zero, List.set_cons_succ]
    refine wpAnyH_take (i := 17) (oi := ({ dst := some 38, op := Op.move (Operand.tmp 6), type := 4, pos := "law.go:25", after := #[{ on := 16, ground := Ground.guard }], guard := some (16, false) } : Oper)) (v := ?_) rfl (by kernel_rfl) (by kernel_rfl) (by kernel_rfl) (fun _ _ _ h => h) (Or.inl ⟨by rfl, ?_⟩) (by assumption) ?_
    rotate_left
    · (intro w hSw; (try dsimp only at hSw); go_simp; try with_reducible rfl)
    try simp only [Act.put, List.setIfInBounds_toArray, List.set_cons_zero, List.set_cons_succ]
    refine wpAnyH_take (i := 18) (oi := ({ dst := some 39, op := Op.move (Operand.tmp 38), type := 4, pos := "law.go:25", after := #[{ on := 17, ground := Ground.data }, { on := 16, ground := Ground.chain }, { on := 16, ground := Ground.guard }], guard := some (16, false) } : Oper)) (v := ?_) rfl (by kernel_rfl) (by kernel_rfl) (by kernel_rfl) (fun _ _ _ h => h) (Or.inl ⟨by rfl, ?_⟩) (by assumption) ?_
    rotate_left
    · (intro w hSw; (try dsimp only at hSw); go_simp; try with_reducible rfl)
    try simp only [Act.put, List.setIfInBounds_toArray, List.set_cons_zero, List.set_cons_succ]
    refine wpAnyH_take (i := 19) (oi := ({ dst := some 40, op := Op.move (Operand.tmp 7), type := 3, pos := "law.go:25", after := #[{ on := 18, ground := Ground.guard }], guard := some (18, true) } : Oper)) (v := undef) rfl (by kernel_rfl) (by kernel_rfl) (by kernel_rfl) (fun _ _ _ h => h) (Or.inr ⟨by rfl, rfl⟩) (by assumption) ?_
    try simp only [Act.put, List.setIfInBounds_toArray, List.set_cons_zero, List.set_cons_succ]
    refine wpAnyH_take (i := 20) (oi := ({ dst := some 41, op := Op.load 27 (Operand.tmp 5), type := 27, pos := "law.go:25", after := #[{ on := 18, ground := Ground.guard }], guard := some (18, true) } : Oper)) (v := undef) rfl (by kernel_rfl) (by kernel_rfl) (by kernel_rfl) (fun _ _ _ h => h) (Or.inr ⟨by rfl, rfl⟩) (by assumption) ?_
    try simp only [Act.put, List.setIfInBounds_toArray, List.set_cons_zero, List.set_cons_succ]
    refine wpAnyH_ready (rs := [21]) (by kernel_rfl) (by simp) ?_
    refine AllReadyH.cons (o := ({ dst := some 42, op := Op.call { callee := Callee.value (Operand.func 17), args := #[Operand.tmp 41], argTypes := #[27] }, type := 3, pos := "law.go:25", after := #[{ on := 20, ground := Ground.data }, { on := 18, ground := Ground.chain }, { on := 18, ground := Ground.guard }], guard := some (18, true) } : Oper)) rfl (fun K hK => ?_) AllReadyH.nil
    go_simp
    refine hK.out _ _ (by assumption) (fun _ => ?_)
    clear hK K
    try simp only [Act.put, List.setIfInBounds_toArray, List.set_cons_zero, List.set_cons_succ]
    refine wpAnyH_take (i := 22) (oi := ({ dst := some 43, op := Op.binOp BinOp.neq 3 (Operand.tmp 40) (Operand.tmp 42) 3, type := 4, pos := "law.go:25", after := #[{ on := 19, ground := Ground.data }, { on := 21, ground := Ground.data }, { on := 18, ground := Ground.guard }], guard := some (18, true) } : Oper)) (v := undef) rfl (by kernel_rfl) (by kernel_rfl) (by kernel_rfl) (fun _ _ _ h => h) (Or.inr ⟨by rfl, rfl⟩) (by assumption) ?_
    try simp only [Act.put, List.setIfInBounds_toArray, List.set_cons_zero, List.set_cons_succ]
    refine wpAnyH_take (i := 23) (oi := ({ dst := some 44, op := Op.pick (Operand.tmp 39) (Operand.tmp 43) (Operand.const (Value.bool false)), type := 4, pos := "law.go:25", after := #[{ on := 18, ground := Ground.data }, { on := 22, ground := Ground.data }, { on := 16, ground := Ground.guard }], guard := some (16, false) } : Oper)) (v := ?_) rfl (by kernel_rfl) (by kernel_rfl) (by kernel_rfl) (fun _ _ _ h => h) (Or.inl ⟨by rfl, ?_⟩) (by assumption) ?_
    rotate_left
    · (intro w hSw; (try dsimp only at hSw); go_simp; try with_reducible rfl)
    try simp only [Act.put, List.setIfInBounds_toArray, List.set_cons_zero, List.set_cons_succ]
    refine wpAnyH_take (i := 24) (oi := ({ dst := some 45, op := Op.pick (Operand.tmp 37) (Operand.const (Value.bool true)) (Operand.tmp 44), type := 4, pos := "law.go:25", after := #[{ on := 16, ground := Ground.data }, { on := 23, ground := Ground.data }], guard := none } : Oper)) (v := ?_) rfl (by kernel_rfl) (by kernel_rfl) (by kernel_rfl) (fun _ _ _ h => h) (Or.inl ⟨by rfl, ?_⟩) (by assumption) ?_
    rotate_left
    · (intro w hSw; (try dsimp only at hSw); go_simp; try with_reducible rfl)
    try simp only [Act.put, List.setIfInBounds_toArray, List.set_cons_zero, List.set_cons_succ]
    refine wpAnyH_take (i := 25) (oi := ({ dst := some 46, op := Op.move (Operand.tmp 45), type := 4, pos := "law.go:25", after := #[{ on := 24, ground := Ground.data }, { on := 21, ground := Ground.chain }], guard := none } : Oper)) (v := ?_) rfl (by kernel_rfl) (by kernel_rfl) (by kernel_rfl) (fun _ _ _ h => h) (Or.inl ⟨by rfl, ?_⟩) (by assumption) ?_
    rotate_left
    · (intro w hSw; (try dsimp only at hSw); go_simp; try with_reducible rfl)
    try simp only [Act.put, List.setIfInBounds_toArray, List.set_cons_zero, List.set_cons_succ]
    refine wpAnyH_take (i := 26) (oi := ({ dst := some 47, op := Op.move (Operand.tmp 6), type := 4, pos := "law.go:25", after := #[{ on := 25, ground := Ground.guard }], guard := some (25, false) } : Oper)) (v := ?_) rfl (by kernel_rfl) (by kernel_rfl) (by kernel_rfl) (fun _ _ _ h => h) (Or.inl ⟨by rfl, ?_⟩) (by assumption) ?_
    rotate_left
    · (intro w hSw; (try dsimp only at hSw); go_simp; try with_reducible rfl)
    try simp only [Act.put, List.setIfInBounds_toArray, List.set_cons_zero, List.set_cons_succ]
    refine wpAnyH_take (i := 27) (oi := ({ dst := some 48, op := Op.unOp UnOp.not 4 (Operand.tmp 47), type := 4, pos := "law.go:25", after := #[{ on := 26, ground := Ground.data }, { on := 25, ground := Ground.guard }], guard := some (25, false) } : Oper)) (v := ?_) rfl (by kernel_rfl) (by kernel_rfl) (by kernel_rfl) (fun _ _ _ h => h) (Or.inl ⟨by rfl, ?_⟩) (by assumption) ?_
    rotate_left
    · (intro w hSw; (try dsimp only at hSw); go_simp; try with_reducible rfl)
    try simp only [Act.put, List.setIfInBounds_toArray, List.set_cons_zero, List.set_cons_succ]
    refine wpAnyH_take (i := 28) (oi := ({ dst := some 49, op := Op.move (Operand.tmp 48), type := 4, pos := "law.go:25", after := #[{ on := 27, ground := Ground.data }, { on := 25, ground := Ground.chain }, { on := 25, ground := Ground.guard }], guard := some (25, false) } : Oper)) (v := ?_) rfl (by kernel_rfl) (by kernel_rfl) (by kernel_rfl) (fun _ _ _ h => h) (Or.inl ⟨by rfl, ?_⟩) (by assumption) ?_
    rotate_left
    · (intro w hSw; (try dsimp only at hSw); go_simp; try with_reducible rfl)
    try simp only [Act.put, List.setIfInBounds_toArray, List.set_cons_zero, List.set_cons_succ]
    refine wpAnyH_take (i := 29) (oi := ({ dst := some 50, op := Op.move (Operand.tmp 7), type := 3, pos := "law.go:25", after := #[{ on := 28, ground := Ground.guard }], guard := some (28, true) } : Oper)) (v := ?_) rfl (by kernel_rfl) (by kernel_rfl) (by kernel_rfl) (fun _ _ _ h => h) (Or.inl ⟨by rfl, ?_⟩) (by assumption) ?_
    rotate_left
    · (intro w hSw; (try dsimp only at hSw); go_simp; try with_reducible rfl)
    try simp only [Act.put, List.setIfInBounds_toArray, List.set_cons_zero, List.set_cons_succ]
    refine wpAnyH_take (i := 30) (oi := ({ dst := some 51, op := Op.binOp BinOp.neq 3 (Operand.tmp 50) (Operand.const (Value.int IntKind.i64 0)) 3, type := 4, pos := "law.go:25", after := #[{ on := 29, ground := Ground.data }, { on := 28, ground := Ground.guard }], guard := some (28, true) } : Oper)) (v := ?_) rfl (by kernel_rfl) (by kernel_rfl) (by kernel_rfl) (fun _ _ _ h => h) (Or.inl ⟨by rfl, ?_⟩) (by assumption) ?_
    rotate_left
    · (intro w hSw; (try dsimp only at hSw); go_simp; try with_reducible rfl)
    try simp only [Act.put, List.setIfInBounds_toArray, List.set_cons_zero, List.set_cons_succ]
    refine wpAnyH_take (i := 31) (oi := ({ dst := some 52, op := Op.pick (Operand.tmp 49) (Operand.tmp 51) (Operand.const (Value.bool false)), type := 4, pos := "law.go:25", after := #[{ on := 28, ground := Ground.data }, { on := 30, ground := Ground.data }, { on := 25, ground := Ground.guard }], guard := some (25, false) } : Oper)) (v := ?_) rfl (by kernel_rfl) (by kernel_rfl) (by kernel_rfl) (fun _ _ _ h => h) (Or.inl ⟨by rfl, ?_⟩) (by assumption) ?_
    rotate_left
    · (intro w hSw; (try dsimp only at hSw); go_simp; try with_reducible rfl)
    try simp only [Act.put, List.setIfInBounds_toArray, List.set_cons_zero, List.set_cons_succ]
    refine wpAnyH_take (i := 32) (oi := ({ dst := some 53, op := Op.pick (Operand.tmp 46) (Operand.const (Value.bool true)) (Operand.tmp 52), type := 4, pos := "law.go:25", after := #[{ on := 25, ground := Ground.data }, { on := 31, ground := Ground.data }], guard := none } : Oper)) (v := ?_) rfl (by kernel_rfl) (by kernel_rfl) (by kernel_rfl) (fun _ _ _ h => h) (Or.inl ⟨by rfl, ?_⟩) (by assumption) ?_
    rotate_left
    · (intro w hSw; (try dsimp only at hSw); go_simp; try with_reducible rfl)
    try simp only [Act.put, List.setIfInBounds_toArray, List.set_cons_zero, List.set_cons_succ]
    refine wpAnyH_done (by kernel_rfl) ?_ _
    refine NoPanic.normal ?_
    go_wp2_with fail
    refine (OF.out _).mono ?_
    rintro e w7 ⟨hof, hb⟩
    have HB8 := Lib.hid (D6.out.below.trans (hb.mono D6.out.below.size))
    clear hb D6 x6
    obtain ⟨hn, he⟩ | ⟨hn, y2, m2, d2, he, g2, hn2⟩ := hof
    · unfold date at he
      subst he
      by_cases hlo : a1 < -719162
      · go_wp2
        go_ret
        exact ⟨rfl, HB8.out.alloc HB8.out.size _⟩
      · have hhi : 2932896 < a1 := by omega
        go_wp2
        go_ret
        exact ⟨rfl, HB8.out.alloc HB8.out.size _⟩
    · have RG2 := Lib.hid (fun w => refgood_ok y2 m2 d2 w)
      have RN2 := Lib.hid (fun w => refnum_ok y2 m2 d2 w g2)
      rw [g2] at RG2
      rw [hn2] at RN2
      unfold date at he RG2 RN2
      subst he
      clear g2 hn2
      obtain ⟨hlo, hhi⟩ := hn
      go_wp2_with fail
      refine (RG2.out _).mono ?_
      rintro e w19 ⟨rfl, hb⟩
      have hbk := (Blk.new w7 24 #[.int .i64 y2, .int .i64 m2, .int .i64 d2]).keeps hb
      have z0 : w19.cell? ⟨w7.heap.size, 0, none⟩ = some (.int .i64 y2) := hbk.cell 0
      have z1 : w19.cell? ⟨w7.heap.size, 1, none⟩ = some (.int .i64 m2) := hbk.cell 1
      have z2 : w19.cell? ⟨w7.heap.size, 2, none⟩ = some (.int .i64 d2) := hbk.cell 2
      have HB9 := Lib.hid (show Below W.heap.size W w19 from (HB8.out.alloc HB8.out.size _).trans (hb.mono (by have := HB8.out.size; simp; omega)))
      clear hb hbk HB8
      go_wp2_with fail
      refine (RN2.out _).mono ?_
      rintro e w20 ⟨rfl, hb⟩
      have HB10 := Lib.hid (HB9.out.trans (hb.mono HB9.out.size))
      clear hb HB9
      go_wp2
      go_ret
      exact ⟨rfl, HB10.out⟩
  · have PN := Lib.hid (fun w => num_ok a0_0 a0_1 a0_2 w ga)
    have PT := Lib.hid (fun w => text_ok a0_0 a0_1 a0_2 w ga)
    have RT := Lib.hid (fun w => reftext_ok a0_0 a0_1 a0_2 w ga)
    have RN := Lib.hid (fun w => refnum_ok a0_0 a0_1 a0_2 w ga)
    rw [ga] at RG PG
    unfold date at RG PG PN PT RT RN
    clear ga
    generalize nm a0_0 a0_1 a0_2 = na at PN RN
    generalize str (tx a0_0 a0_1 a0_2) = sa at PT RT
    go_enter Try.func6, Try.ntmps6
    go_wp2_with fail
    refine (alive_ok _).mono ?_
    rintro e w1 ⟨rfl, hb⟩
    have hbk := HD.out.1.keeps hb
    have c0 : w1.cell? ⟨W.heap.size, 0, none⟩ = some (.int .i64 a0_0) := hbk.cell 0
    have c1 : w1.cell? ⟨W.heap.size, 1, none⟩ = some (.int .i64 a0_1) := hbk.cell 1
    have c2 : w1.cell? ⟨W.heap.size, 2, none⟩ = some (.int .i64 a0_2) := hbk.cell 2
    have D1 := Lib.hid (show Dd W (w1.alloc (.cells #[.int .i64 a0_0, .int .i64 a0_1, .int .i64 a0_2] 27)) w1.heap.size a0_0 a0_1 a0_2 from ⟨hbk.alloc _, Blk.new _ _ _, (HD.out.2.trans (hb.mono (by simp))).alloc (Nat.le_trans (by simp) hb.size) _⟩)
    clear hb HD hbk
    go_wp2_with fail
    refine (RG.out _).mono ?_
    rintro e w2 ⟨rfl, hb⟩
    obtain ⟨D2, x2⟩ := Dd.step hb D1.out
    clear hb D1 c0 c1 c2
    generalize w1.heap.size = p at D2 x2 ⊢
    go_wp2_with fail
    refine (PN.out _).mono ?_
    rintro e w3 ⟨rfl, hb⟩
    obtain ⟨D3, x3⟩ := Dd.step hb D2.out
    clear hb D2 x2
    go_wp2
    refine wp_region_noPanic ?_
    refine wp_region_held_drew (S := (fun w' => w'.cell? ⟨W.heap.size, 0, none⟩ = some (.int .i64 a0_0) ∧ w'.cell? ⟨W.heap.size, 1, none⟩ = some (.int .i64 a0_1) ∧ w'.cell? ⟨W.heap.size, 2, none⟩ = some (.int .i64 a0_2) ∧ w'.cell? ⟨p, 0, none⟩ = some (.int .i64 a0_0) ∧ w'.cell? ⟨p, 1, none⟩ = some (.int .i64 a0_1) ∧ w'.cell? ⟨p, 2, none⟩ = some (.int .i64 a0_2))) (by kernel_rfl) ?_ (fun hHeld => ?_)
    · first | assumption | go_keep
    refine wpAnyH_take (i := 0) (oi := ({ dst := some 21, op := Op.load 24 (Operand.tmp 2), type := 24, pos := "law.go:25", after := #[], guard := none } : Oper)) (v := ?_) rfl (by kernel_rfl) (by kernel_rfl) (by kernel_rfl) (fun _ _ _ h => h) (Or.inl ⟨by rfl, ?_⟩) (by assumption) ?_
    rotate_left
    · (intro w hSw; (try dsimp only at hSw); go_simp; try with_reducible rfl)
    try simp only [Act.put, List.setIfInBounds_toArray, List.set_cons_zero, List.set_cons_succ]
    refine wpAnyH_take (i := 2) (oi := ({ dst := some 23, op := Op.move (Operand.tmp 6), type := 4, pos := "law.go:25", after := #[], guard := none } : Oper)) (v := ?_) rfl (by kernel_rfl) (by kernel_rfl) (by kernel_rfl) (fun _ _ _ h => h) (Or.inl ⟨by rfl, ?_⟩) (by assumption) ?_
    rotate_left
    · (intro w hSw; (try dsimp only at hSw); go_simp; try with_reducible rfl)
    try simp only [Act.put, List.setIfInBounds_toArray, List.set_cons_zero, List.set_cons_succ]
    refine wpAnyH_ready (rs := [1]) (by kernel_rfl) (by simp) ?_
    refine AllReadyH.cons (o := ({ dst := some 22, op := Op.call { callee := Callee.value (Operand.func 15), args := #[Operand.tmp 21], argTypes := #[24] }, type := 4, pos := "law.go:25", after := #[{ on := 0, ground := Ground.data }], guard := none } : Oper)) rfl (fun K hK => ?_) AllReadyH.nil
    go_simp
    with_reducible refine Calls.mono (PG.out _) ?_
    rintro e w4 ⟨rfl, hb⟩
    obtain ⟨D4, x4⟩ := Dd.step (W := W) (p := p) (y := a0_0) (m := a0_1) (d := a0_2) hb (by first | exact D3.out | exact Dd.drew D3.out)
    clear hb
    go_wp2_with fail
    clear hHeld
    refine hK.out _ _ ?_ (fun hHeld => ?_)
    · first | assumption | go_keep
    clear hK K
    try simp only [Act.put, List.setIfInBounds_toArray, List.set_cons_zero, List.set_cons_succ]
    refine wpAnyH_take (i := 3) (oi := ({ dst := some 24, op := Op.binOp BinOp.neq 4 (Operand.tmp 22) (Operand.tmp 23) 4, type := 4, pos := "law.go:25", after := #[{ on := 1, ground := Ground.data }, { on := 2, ground := Ground.data }], guard := none } : Oper)) (v := ?_) rfl (by kernel_rfl) (by kernel_rfl) (by kernel_rfl) (fun _ _ _ h => h) (Or.inl ⟨by rfl, ?_⟩) (by assumption) ?_
    rotate_left
    · (intro w hSw; (try dsimp only at hSw); go_simp; try with_reducible rfl)
    try simp only [Act.put, List.setIfInBounds_toArray, List.set_cons_zero, List.set_cons_succ]
    refine wpAnyH_take (i := 4) (oi := ({ dst := some 25, op := Op.move (Operand.tmp 24), type := 4, pos := "law.go:25", after := #[{ on := 3, ground := Ground.data }, { on := 1, ground := Ground.chain }], guard := none } : Oper)) (v := ?_) rfl (by kernel_rfl) (by kernel_rfl) (by kernel_rfl) (fun _ _ _ h => h) (Or.inl ⟨by rfl, ?_⟩) (by assumption) ?_
    rotate_left
    · (intro w hSw; (try dsimp only at hSw); go_simp; try with_reducible rfl)
    try simp only [Act.put, List.setIfInBounds_toArray, List.set_cons_zero, List.set_cons_succ]
    refine wpAnyH_take (i := 5) (oi := ({ dst := some 26, op := Op.move (Operand.tmp 8), type := 4, pos := "law.go:25", after := #[{ on := 4, ground := Ground.guard }], guard := some (4, false) } : Oper)) (v := ?_) rfl (by kernel_rfl) (by kernel_rfl) (by kernel_rfl) (fun _ _ _ h => h) (Or.inl ⟨by rfl, ?_⟩) (by assumption) ?_
    rotate_left
    · (intro w hSw; (try dsimp only at hSw); go_simp; try with_reducible rfl)
    try simp only [Act.put, List.setIfInBounds_toArray, List.set_cons_zero, List.set_cons_succ]
    refine wpAnyH_take (i := 6) (oi := ({ dst := some 27, op := Op.move (Operand.tmp 6), type := 4, pos := "law.go:25", after := #[{ on := 4, ground := Ground.guard }], guard := some (4, false) } : Oper)) (v := ?_) rfl (by kernel_rfl) (by kernel_rfl) (by kernel_rfl) (fun _ _ _ h => h) (Or.inl ⟨by rfl, ?_⟩) (by assumption) ?_
    rotate_left
    · (intro w hSw; (try dsimp only at hSw); go_simp; try with_reducible rfl)
    try simp only [Act.put, List.setIfInBounds_toArray, List.set_cons_zero, List.set_cons_succ]
    refine wpAnyH_take (i := 7) (oi := ({ dst := some 28, op := Op.binOp BinOp.neq 4 (Operand.tmp 26) (Operand.tmp 27) 4, type := 4, pos := "law.go:25", after := #[{ on := 5, ground := Ground.data }, { on := 6, ground := Ground.data }, { on := 4, ground := Ground.guard }], guard := some (4, false) } : Oper)) (v := ?_) rfl (by kernel_rfl) (by kernel_rfl) (by kernel_rfl) (fun _ _ _ h => h) (Or.inl ⟨by rfl, ?_⟩) (by assumption) ?_
    rotate_left
    · (intro w hSw; (try dsimp only at hSw); go_simp; try with_reducible rfl)
    try simp only [Act.put, List.setIfInBounds_toArray, List.set_cons_zero, List.set_cons_succ]
    refine wpAnyH_take (i := 8) (oi := ({ dst := some 29, op := Op.pick (Operand.tmp 25) (Operand.const (Value.bool true)) (Operand.tmp 28), type := 4, pos := "law.go:25", after := #[{ on := 4, ground := Ground.data }, { on := 7, ground := Ground.data }], guard := none } : Oper)) (v := ?_) rfl (by kernel_rfl) (by kernel_rfl) (by kernel_rfl) (fun _ _ _ h => h) (Or.inl ⟨by rfl, ?_⟩) (by assumption) ?_
    rotate_left
    · (intro w hSw; (try dsimp only at hSw); go_simp; try with_reducible rfl)
    try simp only [Act.put, List.setIfInBounds_toArray, List.set_cons_zero, List.set_cons_succ]
    refine wpAnyH_take (i := 9) (oi := ({ dst := some 30, op := Op.move (Operand.tmp 29), type := 4, pos := "law.go:25", after := #[{ on := 8, ground := Ground.data }, { on := 4, ground := Ground.chain }], guard := none } : Oper)) (v := ?_) rfl (by kernel_rfl) (by kernel_rfl) (by kernel_rfl) (fun _ _ _ h => h) (Or.inl ⟨by rfl, ?_⟩) (by assumption) ?_
    rotate_left
    · (intro w hSw; (try dsimp only at hSw); go_simp; try with_reducible rfl)
    try simp only [Act.put, List.setIfInBounds_toArray, List.set_cons_zero, List.set_cons_succ]
    refine wpAnyH_take (i := 10) (oi := ({ dst := some 31, op := Op.load 24 (Operand.tmp 2), type := 24, pos := "law.go:25", after := #[{ on := 9, ground := Ground.guard }], guard := some (9, false) } : Oper)) (v := ?_) rfl (by kernel_rfl) (by kernel_rfl) (by kernel_rfl) (fun _ _ _ h => h) (Or.inl ⟨by rfl, ?_⟩) (by assumption) ?_
    rotate_left
    · (intro w hSw; (try dsimp only at hSw); go_simp; try with_reducible rfl)
    try simp only [Act.put, List.setIfInBounds_toArray, List.set_cons_zero, List.set_cons_succ]
    refine wpAnyH_take (i := 12) (oi := ({ dst := some 33, op := Op.load 27 (Operand.tmp 5), type := 27, pos := "law.go:25", after := #[{ on := 9, ground := Ground.guard }], guard := some (9, false) } : Oper)) (v := ?_) rfl (by kernel_rfl) (by kernel_rfl) (by kernel_rfl) (fun _ _ _ h => h) (Or.inl ⟨by rfl, ?_⟩) (by assumption) ?_
    rotate_left
    · (intro w hSw; (try dsimp only at hSw); go_simp; try with_reducible rfl)
    try simp only [Act.put, List.setIfInBounds_toArray, List.set_cons_zero, List.set_cons_succ]
    refine wpAnyH_ready (rs := [11]) (by kernel_rfl) (by simp) ?_
    refine AllReadyH.cons (o := ({ dst := some 32, op := Op.call { callee := Callee.value (Operand.func 11), args := #[Operand.tmp 31], argTypes := #[24] }, type := 9, pos := "law.go:25", after := #[{ on := 10, ground := Ground.data }, { on := 9, ground := Ground.chain }, { on := 9, ground := Ground.guard }], guard := some (9, false) } : Oper)) rfl (fun K hK => ?_) AllReadyH.nil
    go_simp
    with_reducible refine Calls.mono (PT.out _) ?_
    rintro e w5 ⟨rfl, hb⟩
    obtain ⟨D5, x5⟩ := Dd.step (W := W) (p := p) (y := a0_0) (m := a0_1) (d := a0_2) hb (by first | exact D4.out | exact Dd.drew D4.out)
    clear hb
    go_wp2_with fail
    clear hHeld
    refine hK.out _ _ ?_ (fun hHeld => ?_)
    · first | assumption | go_keep
    clear hK K
    try simp only [Act.put, List.setIfInBounds_toArray, List.set_cons_zero, List.set_cons_succ]
    refine wpAnyH_ready (rs := [13]) (by kernel_rfl) (by simp) ?_
    refine AllReadyH.cons (o := ({ dst := some 34, op := Op.call { callee := Callee.value (Operand.func 16), args := #[Operand.tmp 33], argTypes := #[27] }, type := 9, pos := "law.go:25", after := #[{ on := 12, ground := Ground.data }, { on := 11, ground := Ground.chain }, { on := 9, ground := Ground.guard }], guard := some (9, false) } : Oper)) rfl (fun K hK => ?_) AllReadyH.nil
    go_simp
    with_reducible refine Calls.mono (RT.out _) ?_
    rintro e w6 ⟨rfl, hb⟩
    obtain ⟨D6, x6⟩ := Dd.step (W := W) (p := p) (y := a0_0) (m := a0_1) (d := a0_2) hb (by first | exact D5.out | exact Dd.drew D5.out)
    clear hb
    go_wp2_with fail
    clear hHeld
    refine hK.out _ _ ?_ (fun hHeld => ?_)
    · first | assumption | go_keep
    clear hK K
    try simp only [Act.put, List.setIfInBounds_toArray, List.set_cons_zero, List.set_cons_succ]
    refine wpAnyH_take (i := 14) (oi := ({ dst := some 35, op := Op.binOp BinOp.neq 9 (Operand.tmp 32) (Operand.tmp 34) 9, type := 4, pos := "law.go:25", after := #[{ on := 11, ground := Ground.data }, { on := 13, ground := Ground.data }, { on := 9, ground := Ground.guard }], guard := some (9, false) } : Oper)) (v := ?_) rfl (by kernel_rfl) (by kernel_rfl) (by kernel_rfl) (fun _ _ _ h => h) (Or.inl ⟨by rfl, ?_⟩) (by assumption) ?_
    rotate_left
    · (intro w hSw; (try dsimp only at hSw); go_simp; try with_reducible rfl)
    try simp only [Act.put, List.setIfInBounds_toArray, List.set_cons_zero, List.set_cons_succ]
    refine wpAnyH_take (i := 15) (oi := ({ dst := some 36, op := Op.pick (Operand.tmp 30) (Operand.const (Value.bool true)) (Operand.tmp 35), type := 4, pos := "law.go:25", after := #[{ on := 9, ground := Ground.data }, { on := 14, ground := Ground.data }], guard := none } : Oper)) (v := ?_) rfl (by kernel_rfl) (by kernel_rfl) (by kernel_rfl) (fun _ _ _ h => h) (Or.inl ⟨by rfl, ?_⟩) (by assumption) ?_
    rotate_left
    · (intro w hSw; (try dsimp only at hSw); go_simp; try with_reducible rfl)
    try simp only [Act.put, List.setIfInBounds_toArray, List.set_cons_zero, List.set_cons_succ]
    refine wpAnyH_take (i := 16) (oi := ({ dst := some 37, op := Op.move (Operand.tmp 36), type := 4, pos := "law.go:25", after := #[{ on := 15, ground := Ground.data }, { on := 13, ground := Ground.chain }], guard := none } : Oper)) (v := ?_) rfl (by kernel_rfl) (by kernel_rfl) (by kernel_rfl) (fun _ _ _ h => h) (Or.inl ⟨by rfl, ?_⟩) (by assumption) ?_
    rotate_left
    · (intro w hSw; (try dsimp only at hSw); go_simp; try with_reducible rfl)
    try simp only [Act.put, List.setIfInBounds_toArray, List.set_cons_zero, List.set_cons_succ]
    refine wpAnyH_take (i := 17) (oi := ({ dst := some 38, op := Op.move (Operand.tmp 6), type := 4, pos := "law.go:25", after := #[{ on := 16, ground := Ground.guard }], guard := some (16, false) } : Oper)) (v := ?_) rfl (by kernel_rfl) (by kernel_rfl) (by kernel_rfl) (fun _ _ _ h => h) (Or.inl ⟨by rfl, ?_⟩) (by assumption) ?_
    rotate_left
    · (intro w hSw; (try dsimp only at hSw); go_simp; try with_reducible rfl)
    try simp only [Act.put, List.setIfInBounds_toArray, List.set_cons_zero, List.set_cons_succ]
    refine wpAnyH_take (i := 18) (oi := ({ dst := some 39, op := Op.move (Operand.tmp 38), type := 4, pos := "law.go:25", after := #[{ on := 17, ground := Ground.data }, { on := 16, ground := Ground.chain }, { on := 16, ground := Ground.guard }], guard := some (16, false) } : Oper)) (v := ?_) rfl (by kernel_rfl) (by kernel_rfl) (by kernel_rfl) (fun _ _ _ h => h) (Or.inl ⟨by rfl, ?_⟩) (by assumption) ?_
    rotate_left
    · (intro w hSw; (try dsimp only at hSw); go_simp; try with_reducible rfl)
    try simp only [Act.put, List.setIfInBounds_toArray, List.set_cons_zero, List.set_cons_succ]
    refine wpAnyH_take (i := 19) (oi := ({ dst := some 40, op := Op.move (Operand.tmp 7), type := 3, pos := "law.go:25", after := #[{ on := 18, ground := Ground.guard }], guard := some (18, true) } : Oper)) (v := ?_) rfl (by kernel_rfl) (by kernel_rfl) (by kernel_rfl) (fun _ _ _ h => h) (Or.inl ⟨by rfl, ?_⟩) (by assumption) ?_
    rotate_left
    · (intro w hSw; (try dsimp only at hSw); go_simp; try with_reducible rfl)
    try simp only [Act.put, List.setIfInBounds_toArray, List.set_cons_zero, List.set_cons_succ]
    refine wpAnyH_take (i := 20) (oi := ({ dst := some 41, op := Op.load 27 (Operand.tmp 5), type := 27, pos := "law.go:25", after := #[{ on := 18, ground := Ground.guard }], guard := some (18, true) } : Oper)) (v := ?_) rfl (by kernel_rfl) (by kernel_rfl) (by kernel_rfl) (fun _ _ _ h => h) (Or.inl ⟨by rfl, ?_⟩) (by assumption) ?_
    rotate_left
    · (intro w hSw; (try dsimp only at hSw); go_simp; try with_reducible rfl)
    try simp only [Act.put, List.setIfInBounds_toArray, List.set_cons_zero, List.set_cons_succ]
    refine wpAnyH_ready (rs := [21]) (by kernel_rfl) (by simp) ?_
    refine AllReadyH.cons (o := ({ dst := some 42, op := Op.call { callee := Callee.value (Operand.func 17), args := #[Operand.tmp 41], argTypes := #[27] }, type := 3, pos := "law.go:25", after := #[{ on := 20, ground := Ground.data }, { on := 18, ground := Ground.chain }, { on := 18, ground := Ground.guard }], guard := some (18, true) } : Oper)) rfl (fun K hK => ?_) AllReadyH.nil
    go_simp
    with_reducible refine Calls.mono (RN.out _) ?_
    rintro e w7 ⟨rfl, hb⟩
    obtain ⟨D7, x7⟩ := Dd.step (W := W) (p := p) (y := a0_0) (m := a0_1) (d := a0_2) hb (by first | exact D6.out | exact Dd.drew D6.out)
    clear hb
    go_wp2_with fail
    clear hHeld
    refine hK.out _ _ ?_ (fun hHeld => ?_)
    · first | assumption | go_keep
    clear hK K
    try simp only [Act.put, List.setIfInBounds_toArray, List.set_cons_zero, List.set_cons_succ]
    refine wpAnyH_take (i := 22) (oi := ({ dst := some 43, op := Op.binOp BinOp.neq 3 (Operand.tmp 40) (Operand.tmp 42) 3, type := 4, pos := "law.go:25", after := #[{ on := 19, ground := Ground.data }, { on := 21, ground := Ground.data }, { on := 18, ground := Ground.guard }], guard := some (18, true) } : Oper)) (v := ?_) rfl (by kernel_rfl) (by kernel_rfl) (by kernel_rfl) (fun _ _ _ h => h) (Or.inl ⟨by rfl, ?_⟩) (by assumption) ?_
    rotate_left
    · (intro w hSw; (try dsimp only at hSw); go_simp; try with_reducible rfl)
    try simp only [Act.put, List.setIfInBounds_toArray, List.set_cons_zero, List.set_cons_succ]
    refine wpAnyH_take (i := 23) (oi := ({ dst := some 44, op := Op.pick (Operand.tmp 39) (Operand.tmp 43) (Operand.const (Value.bool false)), type := 4, pos := "law.go:25", after := #[{ on := 18, ground := Ground.data }, { on := 22, ground := Ground.data }, { on := 16, ground := Ground.guard }], guard := some (16, false) } : Oper)) (v := ?_) rfl (by kernel_rfl) (by kernel_rfl) (by kernel_rfl) (fun _ _ _ h => h) (Or.inl ⟨by rfl, ?_⟩) (by assumption) ?_
    rotate_left
    · (intro w hSw; (try dsimp only at hSw); go_simp; try with_reducible rfl)
    try simp only [Act.put, List.setIfInBounds_toArray, List.set_cons_zero, List.set_cons_succ]
    refine wpAnyH_take (i := 24) (oi := ({ dst := some 45, op := Op.pick (Operand.tmp 37) (Operand.const (Value.bool true)) (Operand.tmp 44), type := 4, pos := "law.go:25", after := #[{ on := 16, ground := Ground.data }, { on := 23, ground := Ground.data }], guard := none } : Oper)) (v := ?_) rfl (by kernel_rfl) (by kernel_rfl) (by kernel_rfl) (fun _ _ _ h => h) (Or.inl ⟨by rfl, ?_⟩) (by assumption) ?_
    rotate_left
    · (intro w hSw; (try dsimp only at hSw); go_simp; try with_reducible rfl)
    try simp only [Act.put, List.setIfInBounds_toArray, List.set_cons_zero, List.set_cons_succ]
    refine wpAnyH_take (i := 25) (oi := ({ dst := some 46, op := Op.move (Operand.tmp 45), type := 4, pos := "law.go:25", after := #[{ on := 24, ground := Ground.data }, { on := 21, ground := Ground.chain }], guard := none } : Oper)) (v := ?_) rfl (by kernel_rfl) (by kernel_rfl) (by kernel_rfl) (fun _ _ _ h => h) (Or.inl ⟨by rfl, ?_⟩) (by assumption) ?_
    rotate_left
    · (intro w hSw; (try dsimp only at hSw); go_simp; try with_reducible rfl)
    try simp only [Act.put, List.setIfInBounds_toArray, List.set_cons_zero, List.set_cons_succ]
    refine wpAnyH_take (i := 26) (oi := ({ dst := some 47, op := Op.move (Operand.tmp 6), type := 4, pos := "law.go:25", after := #[{ on := 25, ground := Ground.guard }], guard := some (25, false) } : Oper)) (v := ?_) rfl (by kernel_rfl) (by kernel_rfl) (by kernel_rfl) (fun _ _ _ h => h) (Or.inl ⟨by rfl, ?_⟩) (by assumption) ?_
    rotate_left
    · (intro w hSw; (try dsimp only at hSw); go_simp; try with_reducible rfl)
    try simp only [Act.put, List.setIfInBounds_toArray, List.set_cons_zero, List.set_cons_succ]
    refine wpAnyH_take (i := 27) (oi := ({ dst := some 48, op := Op.unOp UnOp.not 4 (Operand.tmp 47), type := 4, pos := "law.go:25", after := #[{ on := 26, ground := Ground.data }, { on := 25, ground := Ground.guard }], guard := some (25, false) } : Oper)) (v := ?_) rfl (by kernel_rfl) (by kernel_rfl) (by kernel_rfl) (fun _ _ _ h => h) (Or.inl ⟨by rfl, ?_⟩) (by assumption) ?_
    rotate_left
    · (intro w hSw; (try dsimp only at hSw); go_simp; try with_reducible rfl)
    try simp only [Act.put, List.setIfInBounds_toArray, List.set_cons_zero, List.set_cons_succ]
    refine wpAnyH_take (i := 28) (oi := ({ dst := some 49, op := Op.move (Operand.tmp 48), type := 4, pos := "law.go:25", after := #[{ on := 27, ground := Ground.data }, { on := 25, ground := Ground.chain }, { on := 25, ground := Ground.guard }], guard := some (25, false) } : Oper)) (v := ?_) rfl (by kernel_rfl) (by kernel_rfl) (by kernel_rfl) (fun _ _ _ h => h) (Or.inl ⟨by rfl, ?_⟩) (by assumption) ?_
    rotate_left
    · (intro w hSw; (try dsimp only at hSw); go_simp; try with_reducible rfl)
    try simp only [Act.put, List.setIfInBounds_toArray, List.set_cons_zero, List.set_cons_succ]
    refine wpAnyH_take (i := 29) (oi := ({ dst := some 50, op := Op.move (Operand.tmp 7), type := 3, pos := "law.go:25", after := #[{ on := 28, ground := Ground.guard }], guard := some (28, true) } : Oper)) (v := undef) rfl (by kernel_rfl) (by kernel_rfl) (by kernel_rfl) (fun _ _ _ h => h) (Or.inr ⟨by rfl, rfl⟩) (by assumption) ?_
    try simp only [Act.put, List.setIfInBounds_toArray, List.set_cons_zero, List.set_cons_succ]
    refine wpAnyH_take (i := 30) (oi := ({ dst := some 51, op := Op.binOp BinOp.neq 3 (Operand.tmp 50) (Operand.const (Value.int IntKind.i64 0)) 3, type := 4, pos := "law.go:25", after := #[{ on := 29, ground := Ground.data }, { on := 28, ground := Ground.guard }], guard := some (28, true) } : Oper)) (v := undef) rfl (by kernel_rfl) (by kernel_rfl) (by kernel_rfl) (fun _ _ _ h => h) (Or.inr ⟨by rfl, rfl⟩) (by assumption) ?_
    try simp only [Act.put, List.setIfInBounds_toArray, List.set_cons_zero, List.set_cons_succ]
    refine wpAnyH_take (i := 31) (oi := ({ dst := some 52, op := Op.pick (Operand.tmp 49) (Operand.tmp 51) (Operand.const (Value.bool false)), type := 4, pos := "law.go:25", after := #[{ on := 28, ground := Ground.data }, { on := 30, ground := Ground.data }, { on := 25, ground := Ground.guard }], guard := some (25, false) } : Oper)) (v := ?_) rfl (by kernel_rfl) (by kernel_rfl) (by kernel_rfl) (fun _ _ _ h => h) (Or.inl ⟨by rfl, ?_⟩) (by assumption) ?_
    rotate_left
    · (intro w hSw; (try dsimp only at hSw); go_simp; try with_reducible rfl)
    try simp only [Act.put, List.setIfInBounds_toArray, List.set_cons_zero, List.set_cons_succ]
    refine wpAnyH_take (i := 32) (oi := ({ dst := some 53, op := Op.pick (Operand.tmp 46) (Operand.const (Value.bool true)) (Operand.tmp 52), type := 4, pos := "law.go:25", after := #[{ on := 25, ground := Ground.data }, { on := 31, ground := Ground.data }], guard := none } : Oper)) (v := ?_) rfl (by kernel_rfl) (by kernel_rfl) (by kernel_rfl) (fun _ _ _ h => h) (Or.inl ⟨by rfl, ?_⟩) (by assumption) ?_
    rotate_left
    · (intro w hSw; (try dsimp only at hSw); go_simp; try with_reducible rfl)
    try simp only [Act.put, List.setIfInBounds_toArray, List.set_cons_zero, List.set_cons_succ]
    refine wpAnyH_done (by kernel_rfl) ?_ _
    refine NoPanic.normal ?_
    go_wp2_with fail
    refine (OF.out _).mono ?_
    rintro e w8 ⟨hof, hb⟩
    have HB8 := Lib.hid (D7.out.below.trans (hb.mono D7.out.below.size))
    clear hb D7 x7
    obtain ⟨hn, he⟩ | ⟨hn, y2, m2, d2, he, g2, hn2⟩ := hof
    · unfold date at he
      subst he
      by_cases hlo : a1 < -719162
      · go_wp2
        go_ret
        exact ⟨rfl, HB8.out.alloc HB8.out.size _⟩
      · have hhi : 2932896 < a1 := by omega
        go_wp2
        go_ret
        exact ⟨rfl, HB8.out.alloc HB8.out.size _⟩
    · have RG2 := Lib.hid (fun w => refgood_ok y2 m2 d2 w)
      have RN2 := Lib.hid (fun w => refnum_ok y2 m2 d2 w g2)
      rw [g2] at RG2
      rw [hn2] at RN2
      unfold date at he RG2 RN2
      subst he
      clear g2 hn2
      obtain ⟨hlo, hhi⟩ := hn
      go_wp2_with fail
      refine (RG2.out _).mono ?_
      rintro e w19 ⟨rfl, hb⟩
      have hbk := (Blk.new w8 24 #[.int .i64 y2, .int .i64 m2, .int .i64 d2]).keeps hb
      have z0 : w19.cell? ⟨w8.heap.size, 0, none⟩ = some (.int .i64 y2) := hbk.cell 0
      have z1 : w19.cell? ⟨w8.heap.size, 1, none⟩ = some (.int .i64 m2) := hbk.cell 1
      have z2 : w19.cell? ⟨w8.heap.size, 2, none⟩ = some (.int .i64 d2) := hbk.cell 2
      have HB9 := Lib.hid (show Below W.heap.size W w19 from (HB8.out.alloc HB8.out.size _).trans (hb.mono (by have := HB8.out.size; simp; omega)))
      clear hb hbk HB8
      go_wp2_with fail
      refine (RN2.out _).mono ?_
      rintro e w20 ⟨rfl, hb⟩
      have HB10 := Lib.hid (HB9.out.trans (hb.mono HB9.out.size))
      clear hb HB9
      go_wp2
      go_ret
      exact ⟨rfl, HB10.out⟩
end Go.Proofs.Ytobhjkephinhiac.CivilDatesW
