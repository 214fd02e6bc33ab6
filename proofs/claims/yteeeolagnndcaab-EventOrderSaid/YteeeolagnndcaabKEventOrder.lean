/- Events are taken in the order in which they were tagged, each once, as they were. No condition. -/
import Derived.Test.YteeeolagnndcaabEAlive
import Derived.Test.YteeeolagnndcaabSr
import Derived.Test.YteeeolagnndcaabIn
namespace Go.Proofs.Yteeeolagnndcaab.EventOrderW
open Go.RowKit Go.Proofs.Yteeeolagnndcaab.Bk Go.Proofs.Yteeeolagnndcaab.Rw Go.Proofs.Yteeeolagnndcaab.Ow Go.Proofs.Yteeeolagnndcaab.Kp Go.Proofs.Yteeeolagnndcaab.Evr Go.Proofs.Yteeeolagnndcaab.Evt Go.Proofs.Yteeeolagnndcaab.Label Go.Proofs.Yteeeolagnndcaab.Sr

theorem elem0 {w : World} {A : Option Addr} {len : Nat} {vs : List (List Value)} (h : Lf.RowsAt w [.i .i64, .s, .i .i64, .i .i64, .i .i64, .i .i64, .i .u16, .i .i64] A len vs) {k : Nat} (hk : k < len) :
    ∃ (ad : Addr) (x0 : Int) (x1 : ByteArray) (x2 : Int) (x3 : Int) (x4 : Int) (x5 : Int) (x6 : Int) (x7 : Int), A = some ad ∧ vs[k]? = some [.int .i64 x0, .string x1, .int .i64 x2, .int .i64 x3, .int .i64 x4, .int .i64 x5, .int .u16 x6, .int .i64 x7] ∧ w.cell? (ad.add (k * 8)) = some (.int .i64 x0) ∧ w.cell? ⟨(ad.add (k * 8)).block, (ad.add (k * 8)).off + 1, none⟩ = some (.string x1) ∧ w.cell? ⟨(ad.add (k * 8)).block, (ad.add (k * 8)).off + 2, none⟩ = some (.int .i64 x2) ∧ w.cell? ⟨(ad.add (k * 8)).block, (ad.add (k * 8)).off + 3, none⟩ = some (.int .i64 x3) ∧ w.cell? ⟨(ad.add (k * 8)).block, (ad.add (k * 8)).off + 4, none⟩ = some (.int .i64 x4) ∧ w.cell? ⟨(ad.add (k * 8)).block, (ad.add (k * 8)).off + 5, none⟩ = some (.int .i64 x5) ∧ w.cell? ⟨(ad.add (k * 8)).block, (ad.add (k * 8)).off + 6, none⟩ = some (.int .u16 x6) ∧ w.cell? ⟨(ad.add (k * 8)).block, (ad.add (k * 8)).off + 7, none⟩ = some (.int .i64 x7) ∧ (Lit.int .i64 x0).wf = true ∧ (x1.size ≤ maxLen) ∧ (Lit.int .i64 x2).wf = true ∧ (Lit.int .i64 x3).wf = true ∧ (Lit.int .i64 x4).wf = true ∧ (Lit.int .i64 x5).wf = true ∧ (Lit.int .u16 x6).wf = true ∧ (Lit.int .i64 x7).wf = true := by
  obtain ⟨ad, c, rfl, hv, hL, hc0, hcj⟩ := h.elem hk
  obtain ⟨u0, g0, q0, ⟨x0, e0, f0⟩, L0⟩ := hL.cons
  obtain ⟨u1, g1, q1, ⟨x1, e1, f1⟩, L1⟩ := L0.cons
  obtain ⟨u2, g2, q2, ⟨x2, e2, f2⟩, L2⟩ := L1.cons
  obtain ⟨u3, g3, q3, ⟨x3, e3, f3⟩, L3⟩ := L2.cons
  obtain ⟨u4, g4, q4, ⟨x4, e4, f4⟩, L4⟩ := L3.cons
  obtain ⟨u5, g5, q5, ⟨x5, e5, f5⟩, L5⟩ := L4.cons
  obtain ⟨u6, g6, q6, ⟨x6, e6, f6⟩, L6⟩ := L5.cons
  obtain ⟨u7, g7, q7, ⟨x7, e7, f7⟩, L7⟩ := L6.cons
  have n_ := L7.nil
  have hcc : c = [.int .i64 x0, .string x1, .int .i64 x2, .int .i64 x3, .int .i64 x4, .int .i64 x5, .int .u16 x6, .int .i64 x7] := by rw [q0, e0, q1, e1, q2, e2, q3, e3, q4, e4, q5, e5, q6, e6, q7, e7, n_]
  rw [hcc] at hv hc0 hcj
  exact ⟨ad, x0, x1, x2, x3, x4, x5, x6, x7, rfl, hv, hc0 _ rfl, hcj 0 _ rfl, hcj 1 _ rfl, hcj 2 _ rfl, hcj 3 _ rfl, hcj 4 _ rfl, hcj 5 _ rfl, hcj 6 _ rfl, f0, f1, f2, f3, f4, f5, f6, f7⟩

theorem log_len (l p g n : Nat) (q : List Ev) (w : World) (h : Lg w l p g q n) :
    Calls Try.prog 12 #[.pointer (some ⟨l, 0, none⟩)] w fun e w' => e = .returned (.int .i64 q.length) ∧ w = w' := by
  have c0 : w.cell? ⟨l, 0, none⟩ = some (.pointer (some ⟨p, 0, none⟩)) := h.box.cell 0
  have H := Lib.hid h
  clear h
  go_enter Try.func12, Try.ntmps12
  go_wp2_with (go_at_call 20; with_reducible refine Calls.mono (len_ok p g 16 q _ H.out.ring) ?_; rintro e w' ⟨rfl, rfl⟩)
  go_ret
  exact ⟨rfl, rfl⟩
theorem cells8 {w : World} {b : Nat} {t : TypeId} {x0 x1 x2 x3 x4 x5 x6 x7 : Value} (h : Blk w b t #[x0, x1, x2, x3, x4, x5, x6, x7]) : w.cell? ⟨b, 0, none⟩ = some x0 ∧ w.cell? ⟨b, 1, none⟩ = some x1 ∧ w.cell? ⟨b, 2, none⟩ = some x2 ∧ w.cell? ⟨b, 3, none⟩ = some x3 ∧ w.cell? ⟨b, 4, none⟩ = some x4 ∧ w.cell? ⟨b, 5, none⟩ = some x5 ∧ w.cell? ⟨b, 6, none⟩ = some x6 ∧ w.cell? ⟨b, 7, none⟩ = some x7 :=
  ⟨h.cell 0, h.cell 1, h.cell 2, h.cell 3, h.cell 4, h.cell 5, h.cell 6, h.cell 7⟩
/-- What the loop keeps. -/
structure Inv (W wr : World) (l p g : Nat) (inn : Value) (es : List Ev) (a : Nat) : Prop where
  log : Lg wr l p g (es.drop a) es.length
  row : Sr Ev.cs 8 37 wr W.heap.size inn es
  below : Below W.heap.size W wr
  far : ∀ q, inn.ownBlock = some q → q ≠ l ∧ q ≠ p ∧ q ≠ g
  le : a ≤ es.length
section
variable {W wr w' : World} {l p g a : Nat} {inn : Value} {es : List Ev}
theorem Inv.start {w1 : World} (hL : Lg w' l p g [] 0) (h1 : Below W.heap.size W w1) (hb : Below w1.heap.size w1 w') : Inv W w' l p g (.slice none 0 0) [] 0 :=
  ⟨hL, Sr.nil, h1.trans (hb.mono h1.size), fun q h => (by simp [Value.ownBlock] at h), Nat.le_refl _⟩
theorem Inv.later (h : Inv W wr l p g inn es a) (hb : Below wr.heap.size wr w') : Inv W w' l p g inn es a :=
  ⟨h.log.below hb, h.row.below hb, h.below.trans (hb.mono h.below.size), h.far, h.le⟩
theorem Inv.take {w1 : World} (h : Inv W w1 l p g inn es a) (hl : Lg w' l p g (es.drop (a + 1)) es.length) (hk : Kp (fun k => k = p ∨ k = g) w1 w') (hz : W.heap.size ≤ l ∧ W.heap.size ≤ p ∧ W.heap.size ≤ g) (ha : a < es.length) : Inv W w' l p g inn es (a + 1) :=
  ⟨hl, h.row.kp hk (fun q hq => by have := h.far q hq; omega), below_kp h.below h.below.size hk (fun k hk => by omega), h.far, ha⟩
theorem Inv.at_ {g' c k : Nat} {e : Ev} (h : Inv W wr l p g (.slice (some ⟨g', 0, none⟩) es.length c) es a) (he : es[k]? = some e) : ∀ i u, e.cs[i]? = some u → wr.cell? ⟨g', k * 8 + i, none⟩ = some u := by
  intro i u hu
  have h1 := flat_at (f := Ev.cs) (size := 8) (fun _ => rfl) es k e he i u hu
  have h2 : k * 8 + i < (es.flatMap Ev.cs).length := (List.getElem?_eq_some_iff.1 h1).1
  rw [World.ownsRow.cellAt h.row _ (by have := h.row.1; omega)]
  exact h1
theorem inv_len {n : Nat} (h : Inv W wr l p g inn es a) (hn : n = es.length) : Calls Try.prog 12 #[.pointer (some ⟨l, 0, none⟩)] wr fun e w' => e = .returned (.int .i64 ((n : Int) - a)) ∧ wr = w' := by
  refine (log_len l p g _ _ wr h.log).mono ?_
  rintro e w' ⟨rfl, rfl⟩
  have := h.le
  refine ⟨?_, rfl⟩
  rw [List.length_drop, show ((es.length - a : Nat) : Int) = (n : Int) - a by omega]
theorem Inv.short (h : Inv W wr l p g inn es a) : (es.length : Int) - a ≤ 16 := by
  have := h.log.ring.len_le
  have := h.le
  rw [List.length_drop] at *
  omega
/-- After Tag, before the append. -/
structure Mid (W wr : World) (l p g : Nat) (inn : Value) (es : List Ev) (a : Nat) (e : Ev) : Prop where
  log : Lg wr l p g (es.drop a ++ [e]) (es.length + 1)
  row : Sr Ev.cs 8 37 wr W.heap.size inn es
  below : Below W.heap.size W wr
  far : ∀ q, inn.ownBlock = some q → q ≠ l ∧ q ≠ p ∧ q ≠ g
  le : a ≤ es.length
theorem Mid.of {w1 : World} {e : Ev} (h : Inv W w1 l p g inn es a) (hl : Lg w' l p g (es.drop a ++ [e]) (es.length + 1)) (hk : Kp (fun k => k = l ∨ k = p ∨ k = g) w1 w') (hz : W.heap.size ≤ l ∧ W.heap.size ≤ p ∧ W.heap.size ≤ g) : Mid W w' l p g inn es a e :=
  ⟨hl, h.row.kp hk (fun q hq => by have := h.far q hq; omega), below_kp h.below h.below.size hk (fun k hk => by omega), h.far, h.le⟩
theorem Mid.alloc {e : Ev} (h : Mid W wr l p g inn es a e) (o : Obj) : Mid W (wr.alloc o) l p g inn es a e :=
  ⟨h.log.below ((Below.refl _ _).alloc (Nat.le_refl _) o), h.row.alloc o, h.below.alloc h.below.size o, h.far, h.le⟩
theorem Mid.push {e : Ev} {v' : Value} (h : Mid W wr l p g inn es a e) (hr : Sr Ev.cs 8 37 w' W.heap.size v' (es ++ [e])) (hg : wr.grownBy w' inn.ownBlock) (hv : v'.ownBlock = inn.ownBlock ∨ v'.ownBlock = some wr.heap.size) : Inv W w' l p g v' (es ++ [e]) a := by
  have h1 := h.log.box.lt
  have h2 := h.log.ring.lt
  have hk : Kp (fun q => inn.ownBlock = some q) wr w' := (Kp.refl _ wr).grown hg (fun q hq => .inl hq)
  refine ⟨?_, hr, ?_, ?_, ?_⟩
  · rw [List.drop_append_of_le_length h.le, List.length_append]
    exact h.log.kp hk (fun hq => (h.far _ hq).1 rfl) (fun hq => (h.far _ hq).2.1 rfl) (fun hq => (h.far _ hq).2.2 rfl)
  · exact below_kp h.below h.below.size hk (fun q hq => (h.row.owner q hq).1)
  · intro q hq
    rcases hv with hv | hv
    · exact h.far q (hv ▸ hq)
    · rw [hv] at hq
      injection hq with hq
      omega
  · have := h.le
    rw [List.length_append]
    omega
theorem inv_len2 {e : Ev} {v' : Value} (h : Inv W wr l p g v' (es ++ [e]) a) : Calls Try.prog 12 #[.pointer (some ⟨l, 0, none⟩)] wr fun e w' => e = .returned (.int .i64 ((es.length : Int) + 1 - a)) ∧ wr = w' := by
  refine (inv_len h (n := es.length + 1) (by simp)).mono ?_
  rintro e w' ⟨rfl, rfl⟩
  refine ⟨?_, rfl⟩
  rw [show ((es.length + 1 : Nat) : Int) = (es.length : Int) + 1 by omega]
theorem one_cells (e : Ev) : ∀ u ∈ e.cs, u.oneCell' = true := by
  intro u hu
  simp only [Ev.cs, List.mem_cons, List.not_mem_nil, or_false] at hu
  rcases hu with rfl | rfl | rfl | rfl | rfl | rfl | rfl | rfl <;> rfl
theorem row_form {B : Nat} {v' : Value} {e : Ev} (h : Sr Ev.cs 8 37 wr B v' (es ++ [e])) : ∃ A' c', v' = .slice A' (es.length + 1) c' := by
  obtain ⟨A', c', h1, _⟩ := Sr.sl (f := Ev.cs) (size := 8) (fun _ => rfl) h
  rw [List.length_append, List.length_singleton] at h1
  exact ⟨A', c', h1⟩
theorem Inv.drewN (h : Inv W wr l p g inn es a) (n : Nat) : Inv W (wr.drewN n) l p g inn es a := ⟨⟨h.log.box, h.log.ring, h.log.lp, h.log.lg⟩, h.row, below_drewN_ h.below n, h.far, h.le⟩
end

set_option maxRecDepth 100000 in
set_option maxHeartbeats 2000000 in
set_option linter.unusedVariables false in
theorem walk (a0 : Option Addr) (len0 cap0 : Nat) (z0 : List (List Value)) (W : World) (l0 : len0 ≤ cap0) (m0 : cap0 ≤ maxLen) (w0 : Lf.RowsAt W [.i .i64, .s, .i .i64, .i .i64, .i .i64, .i .i64, .i .u16, .i .i64] a0 len0 z0) :
    Calls Try.prog 4 #[.slice a0 len0 cap0] W fun e w' => e = .returned (.bool true) ∧ Below W.heap.size W w' := by
  have R0 := Lib.hid w0
  clear w0
  unfold maxLen at m0
  by_cases hg : len0 ≤ 200
  rotate_left
  · have hg1 : (200 : Int) < len0 := by omega
    go_enter Try.func4, Try.ntmps4
    go_wp2_with (go_at_call 6; with_reducible refine Calls.mono (alive_ok _) ?_; rintro e w1 ⟨rfl, hb⟩; have HW := Lib.hid hb; clear hb)
    go_ret
    exact ⟨rfl, HW.out⟩
  go_enter Try.func4, Try.ntmps4
  go_wp2_with (first
    | (go_at_call 6; with_reducible refine Calls.mono (alive_ok _) ?_; rintro e w1 ⟨rfl, hb⟩; have HW := Lib.hid hb; clear hb)
    | (go_at_call 9; with_reducible refine Calls.mono (log_new _) ?_; rintro e w2 ⟨l, p, g, rfl, hL, hl, hp, hg2, hb⟩; have HI := Lib.hid (Inv.start hL HW.out hb); have HZ := Lib.hid (show W.heap.size ≤ l ∧ W.heap.size ≤ p ∧ W.heap.size ≤ g by have := HW.out.size; omega); clear hL hl hp hg2 hb))
  go_loopw [4, 5, 20] (fun inn at_ i wr => ∃ (j a : Nat) (es : List Ev), j ≤ len0 ∧ es.length ≤ j ∧ i = .int .i64 j ∧ at_ = .int .i64 a ∧ Inv W wr l p g inn es a) (fun _ _ i _ => len0 - (intOf i).toNat)
  case atStart => exact ⟨0, 0, [], Nat.zero_le _, Nat.le_refl _, rfl, rfl, HI.out⟩
  case round =>
    clear HI HW
    obtain ⟨j, a, es, hj, hej, rfl, rfl, hi⟩ := hrel
    obtain ⟨A, c, rfl, hac, hcm, hA⟩ := Sr.sl (f := Ev.cs) (size := 8) (fun _ => rfl) hi.row
    have HI := Lib.hid hi
    have HA := Lib.hid hA
    clear hi hA
    unfold maxLen at hcm
    by_cases hlt : j < len0
    · obtain ⟨ad0, x0, x1, x2, x3, x4, x5, x6, x7, rfl, _, cx0, cx1, cx2, cx3, cx4, cx5, cx6, cx7, wx0, wx1, wx2, wx3, wx4, wx5, wx6, wx7⟩ := elem0 (R0.out.below HI.out.below) hlt
      clear wx0 wx2 wx3 wx4 wx5 wx6 wx7
      have hbx := HI.out.below.size
      have hI1 : ∀ o, Inv W (wr.alloc o) l p g (.slice A es.length c) es a := fun o => HI.out.later ((Below.refl _ _).alloc (Nat.le_refl _) o)
      have HI1 := Lib.hid hI1
      have hB1 : ∀ cs, Blk (wr.alloc (.cells cs 35)) wr.heap.size 35 cs := fun cs => Blk.new wr 35 cs
      have HB1 := Lib.hid hB1
      clear hI1 hB1
      by_cases hl : (x1.size : Int) ≤ 1000
      rotate_left
      · have hl2 : (1000 : Int) < x1.size := by omega
        go_wp2_with fail
        go_ret
        exact ⟨rfl, (HI1.out _).below⟩
      by_cases hk : x0 = 2
      · subst hk
        by_cases ha : a = es.length
        · subst ha
          have HL := Lib.hid (fun o => (List.drop_length (l := es)) ▸ (HI1.out o).log)
          go_wp2_with (go_at_call 10; with_reducible refine Calls.mono (take_none l p g _ _ (HL.out _)) ?_; rintro e w3 ⟨rfl, hb⟩; have HI3 := Lib.hid ((HI1.out _).later hb); clear hb; dsimp only [Ev.v, ev0])
          go_quiet (fail)
          go_wp2
          go_roundw
          case rel => exact ⟨j + 1, es.length, es, hlt, Nat.le_succ_of_le hej, by go_num, rfl, (HI3.out.later ((Below.refl _ _).alloc (Nat.le_refl _) _)).drewN _⟩
          case measure => simp [intOf]; omega
        · have ha2 : a < es.length := by have := HI.out.le; omega
          obtain ⟨g', rfl, hg1, hg2, _⟩ := HA.out (by omega)
          obtain ⟨e, he⟩ : ∃ e, es[a]? = some e := ⟨_, List.getElem?_eq_getElem ha2⟩
          have hd : es.drop a = e :: es.drop (a + 1) := by
            rw [List.drop_eq_getElem_cons ha2]
            rw [List.getElem?_eq_getElem ha2] at he
            injection he with he
            rw [he]
          have HL := Lib.hid (fun o => hd ▸ (HI1.out o).log)
          have HE := Lib.hid he
          have hlt2 : (a : Int) < es.length := by omega
          clear hd he
          go_wp2_with (go_at_call 10; with_reducible refine Calls.mono (take_ok l p g _ e _ _ (HL.out _)) ?_; rintro e w3 ⟨rfl, hL, hk⟩; have HI3 := Lib.hid ((HI1.out _).take hL hk HZ.out ha2); clear hL hk; dsimp only [Ev.v])
          have hY := HI3.out.later ((Below.refl _ _).alloc (Nat.le_refl _) (.cells #[.int .i64 e.id, .string e.lab, .int .i64 e.loc, .int .i64 e.t, .int .i64 e.h, .int .i64 e.root, .int .u16 e.boot, .int .i64 e.way] 37))
          have y0 : (w3.alloc (.cells #[.int .i64 e.id, .string e.lab, .int .i64 e.loc, .int .i64 e.t, .int .i64 e.h, .int .i64 e.root, .int .u16 e.boot, .int .i64 e.way] 37)).cell? ⟨g', a * 8, none⟩ = some (.int .i64 e.id) := hY.at_ HE.out 0 _ rfl
          have y1 : (w3.alloc (.cells #[.int .i64 e.id, .string e.lab, .int .i64 e.loc, .int .i64 e.t, .int .i64 e.h, .int .i64 e.root, .int .u16 e.boot, .int .i64 e.way] 37)).cell? ⟨g', a * 8 + 1, none⟩ = some (.string e.lab) := hY.at_ HE.out 1 _ rfl
          have y2 : (w3.alloc (.cells #[.int .i64 e.id, .string e.lab, .int .i64 e.loc, .int .i64 e.t, .int .i64 e.h, .int .i64 e.root, .int .u16 e.boot, .int .i64 e.way] 37)).cell? ⟨g', a * 8 + 2, none⟩ = some (.int .i64 e.loc) := hY.at_ HE.out 2 _ rfl
          have y3 : (w3.alloc (.cells #[.int .i64 e.id, .string e.lab, .int .i64 e.loc, .int .i64 e.t, .int .i64 e.h, .int .i64 e.root, .int .u16 e.boot, .int .i64 e.way] 37)).cell? ⟨g', a * 8 + 3, none⟩ = some (.int .i64 e.t) := hY.at_ HE.out 3 _ rfl
          have y4 : (w3.alloc (.cells #[.int .i64 e.id, .string e.lab, .int .i64 e.loc, .int .i64 e.t, .int .i64 e.h, .int .i64 e.root, .int .u16 e.boot, .int .i64 e.way] 37)).cell? ⟨g', a * 8 + 4, none⟩ = some (.int .i64 e.h) := hY.at_ HE.out 4 _ rfl
          have y5 : (w3.alloc (.cells #[.int .i64 e.id, .string e.lab, .int .i64 e.loc, .int .i64 e.t, .int .i64 e.h, .int .i64 e.root, .int .u16 e.boot, .int .i64 e.way] 37)).cell? ⟨g', a * 8 + 5, none⟩ = some (.int .i64 e.root) := hY.at_ HE.out 5 _ rfl
          have y6 : (w3.alloc (.cells #[.int .i64 e.id, .string e.lab, .int .i64 e.loc, .int .i64 e.t, .int .i64 e.h, .int .i64 e.root, .int .u16 e.boot, .int .i64 e.way] 37)).cell? ⟨g', a * 8 + 6, none⟩ = some (.int .u16 e.boot) := hY.at_ HE.out 6 _ rfl
          have y7 : (w3.alloc (.cells #[.int .i64 e.id, .string e.lab, .int .i64 e.loc, .int .i64 e.t, .int .i64 e.h, .int .i64 e.root, .int .u16 e.boot, .int .i64 e.way] 37)).cell? ⟨g', a * 8 + 7, none⟩ = some (.int .i64 e.way) := hY.at_ HE.out 7 _ rfl
          have HY := Lib.hid hY
          clear hY
          go_quiet (fail)
          clear y0 y1 y2 y3 y4 y5 y6 y7
          go_wp2
          go_roundw
          case rel => exact ⟨j + 1, a + 1, es, hlt, Nat.le_succ_of_le hej, by go_num, by go_num, HY.out.drewN _⟩
          case measure => simp [intOf]; omega
      · have hS : x1.size ≤ 140737488355328 := by omega
        have hale := HI.out.le
        have hsh := HI.out.short
        have hn : es.length ≤ 1000 := by omega
        have hk2 : ¬ (x0 : Int) = 2 := hk
        by_cases hlab : Lab x1 = false
        · go_wp2_with (first
            | (go_at_call 11; with_reducible refine Calls.mono (tag_bad l x1 hS hlab _ _ _ _ _ _ _) ?_; rintro e w3 ⟨rfl, hb⟩; have HI3 := Lib.hid ((HI1.out _).later hb); clear hb)
            | (go_at_call 12; with_reducible refine Calls.mono (inv_len HI3.out rfl) ?_; rintro e w4 ⟨rfl, rfl⟩))
          go_wp2
          go_roundw
          case rel => exact ⟨j + 1, a, es, hlt, Nat.le_succ_of_le hej, by go_num, rfl, HI3.out⟩
          case measure => simp [intOf]; omega
        · have hlab2 : Lab x1 = true := by simpa using hlab
          by_cases hfull : (es.drop a).length = 16
          · have HF := Lib.hid hfull
            clear hfull
            go_wp2_with (first
              | (go_at_call 11; with_reducible refine Calls.mono (tag_full l p g es.length (es.drop a) x1 hS hlab2 _ _ _ _ _ _ _ (HI1.out _).log HF.out hn) ?_; rintro e w3 ⟨rfl, hb⟩; have HI3 := Lib.hid ((HI1.out _).later hb); clear hb)
              | (go_at_call 12; with_reducible refine Calls.mono (inv_len HI3.out rfl) ?_; rintro e w4 ⟨rfl, rfl⟩))
            go_roundw
            case rel => exact ⟨j + 1, a, es, hlt, Nat.le_succ_of_le hej, by go_num, rfl, HI3.out⟩
            case measure => simp [intOf]; omega
          · have hroom : (es.drop a).length < 16 := by
              have := HI.out.log.ring.len_le
              omega
            have HR := Lib.hid hroom
            clear hfull hroom
            have hll := HI.out.log.box.lt
            have hrl := HI.out.log.ring.lt
            have D := Lib.hid (fun o => tag_ok l p g es.length (es.drop a) x1 hS hlab2 x2 x3 x4 x5 x6 x7 _ (HI1.out o).log HR.out hn)
            have hcast : ((es.length + 1 : Nat) : Int) = (es.length : Int) + 1 := by omega
            rw [hcast] at D
            clear hcast
            have hs16 : (es.length : Int) + 1 - a ≤ 16 := by
              have := HR.out
              rw [List.length_drop] at this
              omega
            have hsa : 0 ≤ (es.length : Int) + 1 - a := by omega
            clear HI1
            go_wp2_with (first
              | (go_at_call 11; with_reducible refine Calls.mono (D.out _) ?_; rintro e w3 ⟨rfl, hL, hk⟩; have HM := Lib.hid (Mid.of (HI.out.later ((Below.refl _ _).alloc (Nat.le_refl _) _)) hL hk HZ.out); have hb := blk_kp (HB1.out _) hk (fun h => by omega); have HB3 := Lib.hid hb; obtain ⟨q0, q1, q2, q3, q4, q5, q6, q7⟩ := cells8 hb; clear hL hk hb)
              | (at_builtin; refine wp_push Ev.cs 8 37 _ W.heap.size ev0.v 72 rfl (.tmp 69) (.tmp 78) 27 rfl Try.underlying27 (by kernel_rfl) rfl (by decide) (.slice A es.length c) es _ ⟨(es.length : Int) + 1, x1, x2, x3, x4, x5, x6, x7⟩ 37 rfl rfl rfl (HM.out.row.alloc _) (Blk.new _ _ _) ?_ ?_ ?_ ?_ ?_))
            · exact one_cells _
            · unfold maxLen; omega
            · omega
            · have := HM.out.below.size; simp; omega
            intro v' w4 hr hg hv
            have hi4 := (HM.out.alloc _).push hr hg (by rw [World.size_alloc]; exact hv)
            have hb4 := (blk_kp ((HB3.out).alloc _) ((Kp.refl (fun q => (Value.slice A es.length c).ownBlock = some q) _).grown hg (fun q hq => .inl hq)) (fun hq => by have := HI.out.row.owner _ hq; omega))
            obtain ⟨p0, p1, p2, p3, p4, p5, p6, p7⟩ := cells8 hb4
            have hx4 := inv_len2 hi4
            have HI4 := Lib.hid hi4
            have HX4 := Lib.hid hx4
            obtain ⟨A', c', rfl⟩ := row_form hr
            clear hr hg hv hi4 hb4 hx4 HM HB3 q0 q1 q2 q3 q4 q5 q6 q7 D
            go_wp2_with (go_at_call 12; with_reducible refine Calls.mono HX4.out ?_; rintro e w5 ⟨rfl, rfl⟩)
            go_roundw
            case rel => exact ⟨j + 1, a, es ++ [⟨(es.length : Int) + 1, x1, x2, x3, x4, x5, x6, x7⟩], hlt, by simp; omega, by go_num, rfl, HI4.out⟩
            case measure => simp [intOf]; omega
    · go_wp2
      go_ret
      exact ⟨rfl, HI.out.below⟩
end Go.Proofs.Yteeeolagnndcaab.EventOrderW
