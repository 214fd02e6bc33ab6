/- The walks of ring's functions, of numbers and of texts: what each does to a ring's two blocks. -/
import Derived.Test.YtjmakjfnhffehaaChecked
import Derived.Test.YtjmakjfnhffehaaKp
import Derived.Deep.QuietTactic
import Derived.BigQuiet
import Derived.BigRegion
import Derived.WalkLawsBesides
import Derived.WalkSpells
import Derived.IntWalk
import Derived.Lib.Hide
namespace Go.Proofs.Ytjmakjfnhffehaa.Ring
open Go.RowKit Go.Proofs.Ytjmakjfnhffehaa.Bk Go.Proofs.Ytjmakjfnhffehaa.Rw Go.Proofs.Ytjmakjfnhffehaa.Ow Go.Proofs.Ytjmakjfnhffehaa.Kp

/-- A ring at block p (of type S), its cells at block g (of type E), with room for so many, with these in it. -/
def Rg (S E : TypeId) (w : World) (p g room : Nat) (q : List Value) : Prop :=
  ∃ (f : Nat) (cs : Array Value), cs.size = room ∧ Blk w p S #[.slice (some ⟨g, 0, none⟩) room room, .int .i64 f, .int .i64 q.length] ∧ Blk w g E cs ∧ p ≠ g ∧ f < room ∧ q.length ≤ room ∧
    ∀ k u, q[k]? = some u → cs[(f + k) % room]? = some u

section
variable {S E : TypeId} {w w' : World} {p g room : Nat} {q : List Value}
theorem Rg.drewN (h : Rg S E w p g room q) (n : Nat) : Rg S E (w.drewN n) p g room q := h
theorem Rg.kp {X : Nat → Prop} (h : Rg S E w p g room q) (hk : Kp X w w') (hp : ¬ X p) (hg : ¬ X g) : Rg S E w' p g room q := by
  obtain ⟨f, cs, h1, h2, h3, h4⟩ := h
  exact ⟨f, cs, h1, blk_kp h2 hk hp, blk_kp h3 hk hg, h4⟩
theorem Rg.below (h : Rg S E w p g room q) (hb : Below w.heap.size w w') : Rg S E w' p g room q := by
  obtain ⟨f, cs, h1, h2, h3, h4⟩ := h
  exact ⟨f, cs, h1, h2.keeps hb, h3.keeps hb, h4⟩
theorem Rg.lt (h : Rg S E w p g room q) : p < w.heap.size ∧ g < w.heap.size ∧ p ≠ g := by
  obtain ⟨f, cs, h1, h2, h3, h4, _⟩ := h
  exact ⟨h2.lt, h3.lt, h4⟩
theorem Rg.len_le (h : Rg S E w p g room q) : q.length ≤ room := by
  obtain ⟨f, cs, h1, h2, h3, h4, h5, h6, _⟩ := h
  exact h6
end

theorem mod_ne {f k k' room : Nat} (hk : k < room) (hk' : k' < room) (h : k ≠ k') : (f + k) % room ≠ (f + k') % room := by
  intro e
  have h1 := Nat.div_add_mod (f + k) room
  have h2 := Nat.div_add_mod (f + k') room
  have h3 : (f + k) / room = (f + k') / room ∨ (f + k) / room < (f + k') / room ∨ (f + k') / room < (f + k) / room := by omega
  rcases h3 with h3 | h3 | h3
  · rw [h3] at h1; omega
  · have := Nat.mul_le_mul_left room (show (f + k) / room + 1 ≤ (f + k') / room from h3)
    rw [Nat.mul_add] at this
    omega
  · have := Nat.mul_le_mul_left room (show (f + k') / room + 1 ≤ (f + k) / room from h3)
    rw [Nat.mul_add] at this
    omega
/-- One more, behind all. -/
theorem cells_push {cs : Array Value} {q : List Value} {f room : Nat} {x : Value} (hs : cs.size = room) (hn : q.length < room) (h : ∀ k u, q[k]? = some u → cs[(f + k) % room]? = some u) :
    ∀ k u, (q ++ [x])[k]? = some u → (cs.setIfInBounds ((f + q.length) % room) x)[(f + k) % room]? = some u := by
  intro k u hu
  have hm : ∀ a, a % room < room := fun a => Nat.mod_lt _ (by omega)
  rcases Nat.lt_trichotomy k q.length with hk | hk | hk
  · rw [List.getElem?_append_left hk] at hu
    rw [Array.getElem?_setIfInBounds_ne (mod_ne hn (by omega) (by omega))]
    exact h k u hu
  · subst hk
    rw [List.getElem?_append_right (Nat.le_refl _), Nat.sub_self] at hu
    injection hu with hu
    subst hu
    rw [Array.getElem?_setIfInBounds_self, if_pos (by rw [hs]; exact hm _)]
  · rw [List.getElem?_append_right (by omega), List.getElem?_eq_none (by simp; omega)] at hu
    cases hu
/-- The first one goes. -/
theorem cells_pop {cs : Array Value} {q : List Value} {f room : Nat} {x z : Value} (hf : f < room) (hn : q.length < room) (h : ∀ k u, (x :: q)[k]? = some u → cs[(f + k) % room]? = some u) :
    ∀ k u, q[k]? = some u → (cs.setIfInBounds f z)[((f + 1) % room + k) % room]? = some u := by
  intro k u hu
  have hk : k < q.length := (List.getElem?_eq_some_iff.1 hu).1
  rw [Nat.mod_add_mod, show f + 1 + k = f + (k + 1) by omega]
  have h2 := mod_ne (f := f) (k := 0) (k' := k + 1) (room := room) (by omega) (by omega) (by omega)
  rw [Nat.add_zero, Nat.mod_eq_of_lt hf] at h2
  rw [Array.getElem?_setIfInBounds_ne h2]
  exact h (k + 1) u (by simpa using hu)

/-! ### RI -/
namespace RI
theorem new_ok (r : Nat) (w : World) (h0 : 1 ≤ r) (h1 : r ≤ 64) :
    Calls Try.prog 5 #[.int .i64 r] w fun e w' => ∃ p g, e = .returned (.tuple #[.pointer (some ⟨p, 0, none⟩), .int .i64 0]) ∧ Rg 43 3 w' p g r [] ∧ w.heap.size ≤ p ∧ w.heap.size ≤ g ∧ Below w.heap.size w w' := by
  go_enter Try.func5, Try.ntmps5
  go_wp2_with (with_reducible refine wp_full_v 3 (.int .i64 0) w 8 rfl 34 _ _ rfl Try.underlying34 (by kernel_rfl) rfl .i64 .i64 _ _ r rfl rfl rfl rfl ?_ ?_ ?_)
  · omega
  · unfold maxLen; omega
  intro w2 hb hg
  have HB := Lib.hid hb
  have HW := Lib.hid ((Below.refl w.heap.size w).grown hg (Nat.le_refl _) (fun k hk => by cases hk))
  clear hb hg
  go_wp2
  go_ret2
  refine ⟨w2.heap.size, w.heap.size, rfl, ⟨0, _, by simp, Blk.new _ _ _, HB.out.alloc _, ?_, h0, Nat.zero_le _, fun k u h => by simp at h⟩, HW.out.size, Nat.le_refl _, HW.out.alloc HW.out.size _⟩
  have := HB.out.lt
  omega
theorem new_no (r : Int) (w : World) (h : r < 1 ∨ 64 < r) :
    Calls Try.prog 5 #[.int .i64 r] w fun e w' => e = .returned (.tuple #[.pointer none, .int .i64 1]) ∧ w = w' := by
  rcases h with h | h
  · go_enter Try.func5, Try.ntmps5
    go_wp2
    go_ret2
    exact ⟨rfl, rfl⟩
  · have h2 : ¬ r < 1 := by omega
    go_enter Try.func5, Try.ntmps5
    go_wp2
    go_ret2
    exact ⟨rfl, rfl⟩
theorem len_ok (p g room : Nat) (q : List Value) (w : World) (h : Rg 43 3 w p g room q) :
    Calls Try.prog 9 #[.pointer (some ⟨p, 0, none⟩)] w fun e w' => e = .returned (.int .i64 q.length) ∧ w = w' := by
  obtain ⟨f, cs, _, hb, _⟩ := h
  have c2 : w.cell? ⟨p, 2, none⟩ = some (.int .i64 q.length) := hb.cell 2
  clear hb
  go_enter Try.func9, Try.ntmps9
  go_wp2
  go_ret
  exact ⟨rfl, rfl⟩
theorem push_full (p g room : Nat) (q : List Value) (v : Int) (w : World) (h : Rg 43 3 w p g room q) (hq : q.length = room) :
    Calls Try.prog 8 #[.pointer (some ⟨p, 0, none⟩), (.int .i64 v)] w fun e w' => e = .returned (.int .i64 6) ∧ ∃ m, w' = w.drewN m := by
  obtain ⟨f, cs, _, hb, _⟩ := h
  rw [hq] at hb
  have c0 : w.cell? ⟨p, 0, none⟩ = some (.slice (some ⟨g, 0, none⟩) room room) := hb.cell 0
  have c2 : w.cell? ⟨p, 2, none⟩ = some (.int .i64 room) := hb.cell 2
  clear hb hq
  go_enter Try.func8, Try.ntmps8
  go_wp2
  go_quiet (fail)
  go_wp2
  go_ret
  exact ⟨rfl, nq, rfl⟩
theorem push_ok (p g room : Nat) (q : List Value) (v : Int) (w : World) (h : Rg 43 3 w p g room q) (hq : q.length < room) (hr : room ≤ 64) :
    Calls Try.prog 8 #[.pointer (some ⟨p, 0, none⟩), (.int .i64 v)] w fun e w' => e = .returned (.int .i64 0) ∧ Rg 43 3 w' p g room (q ++ [(.int .i64 v)]) ∧ Kp (fun k => k = p ∨ k = g) w w' := by
  obtain ⟨f, cs, hcs, hb, hg, hne, hf, hle, hcell⟩ := h
  have c0 : w.cell? ⟨p, 0, none⟩ = some (.slice (some ⟨g, 0, none⟩) room room) := hb.cell 0
  have c1 : w.cell? ⟨p, 1, none⟩ = some (.int .i64 f) := hb.cell 1
  have c2 : w.cell? ⟨p, 2, none⟩ = some (.int .i64 q.length) := hb.cell 2
  have f2 := hb.frozen 2
  have hj : (f + q.length) % room < room := Nat.mod_lt _ (by omega)
  have cg : ∃ u, w.cell? ⟨g, (f + q.length) % room, none⟩ = some u := ⟨_, (hg.cell _).trans (Array.getElem?_eq_getElem (by omega))⟩
  obtain ⟨u, cg⟩ := cg
  have fg := hg.frozen ((f + q.length) % room)
  have HCELL := Lib.hid (cells_push (x := (.int .i64 v)) hcs hq hcell)
  have HB := Lib.hid hb
  have HG := Lib.hid hg
  have HCS := Lib.hid hcs
  have hn : ((q.length : Int) == (room : Int)) = false := by simp; omega
  have hm : ((f : Int) + (q.length : Int)).tmod (room : Int) = (((f + q.length) % room : Nat) : Int) := by
    rw [Int.tmod_eq_emod_of_nonneg (by omega)]
    simp
  generalize (f + q.length) % room = j at hj cg fg HCELL hm
  clear hcell hb hg hcs
  go_enter Try.func8, Try.ntmps8
  go_wp2
  go_quiet (fail)
  go_wp2
  go_region
  go_wp2
  go_ret
  refine ⟨rfl, ⟨f, cs.setIfInBounds j (.int .i64 v), by simpa using HCS.out, ?_, ?_, hne, hf, by rw [List.length_append, List.length_singleton]; omega, HCELL.out⟩, ((((Kp.refl _ w).drewN _).set_ ⟨g, j, none⟩ (.inl (.inr rfl)) _).set_ ⟨p, 2, none⟩ (.inl (.inl rfl)) _)⟩
  · have := ((HB.out.drewN (nq + 1)).far (p := ⟨g, j, none⟩) hne (.int .i64 v)).set_ 2 (.int .i64 ((q.length : Int) + 1))
    rw [List.length_append, List.length_singleton]
    exact this
  · exact ((HG.out.drewN (nq + 1)).set_ j (.int .i64 v)).far (p := ⟨p, 2, none⟩) (fun e => hne e.symm) _
theorem pop_none (p g room : Nat) (w : World) (h : Rg 43 3 w p g room []) :
    Calls Try.prog 7 #[.pointer (some ⟨p, 0, none⟩)] w fun e w' => e = .returned (.tuple #[(.int .i64 0), .bool false]) ∧ w = w' := by
  have H := Lib.hid h
  clear h
  go_enter Try.func7, Try.ntmps7
  go_wp2_with (go_at_call 9; with_reducible refine Calls.mono (len_ok p g room [] _ H.out) ?_; rintro e w' ⟨rfl, rfl⟩)
  go_ret2
  exact ⟨rfl, rfl⟩
theorem pop_ok (p g room : Nat) (x : Value) (q : List Value) (w : World) (h : Rg 43 3 w p g room (x :: q)) (hr : room ≤ 64) :
    Calls Try.prog 7 #[.pointer (some ⟨p, 0, none⟩)] w fun e w' => e = .returned (.tuple #[x, .bool true]) ∧ Rg 43 3 w' p g room q ∧ Kp (fun k => k = p ∨ k = g) w w' := by
  have H := Lib.hid h
  obtain ⟨f, cs, hcs, hb, hg, hne, hf, hle, hcell⟩ := h
  rw [List.length_cons] at hle hb
  have c0 : w.cell? ⟨p, 0, none⟩ = some (.slice (some ⟨g, 0, none⟩) room room) := hb.cell 0
  have c1 : w.cell? ⟨p, 1, none⟩ = some (.int .i64 f) := hb.cell 1
  have c2 : w.cell? ⟨p, 2, none⟩ = some (.int .i64 ((q.length + 1 : Nat) : Int)) := hb.cell 2
  have f1 := hb.frozen 1
  have f2 := hb.frozen 2
  have hx := hcell 0 x rfl
  rw [Nat.add_zero, Nat.mod_eq_of_lt hf] at hx
  have cg : w.cell? ⟨g, f, none⟩ = some x := (hg.cell _).trans hx
  have fg := hg.frozen f
  have HCELL := Lib.hid (cells_pop (z := (.int .i64 0)) hf (by omega) hcell)
  have HB := Lib.hid hb
  have HG := Lib.hid hg
  have HCS := Lib.hid hcs
  have hm : ((f : Int) + 1).tmod (room : Int) = (((f + 1) % room : Nat) : Int) := by
    rw [Int.tmod_eq_emod_of_nonneg (by omega)]
    simp
  have hj : (f + 1) % room < room := Nat.mod_lt _ (by omega)
  generalize (f + 1) % room = j at HCELL hm hj
  clear hcell hb hg hcs hx
  go_enter Try.func7, Try.ntmps7
  go_wp2_with (go_at_call 9; with_reducible refine Calls.mono (len_ok p g room (x :: q) _ H.out) ?_; rintro e w' ⟨rfl, rfl⟩)
  go_region
  go_wp2
  go_region
  go_wp2
  go_region
  go_wp2
  go_ret2
  refine ⟨rfl, ⟨j, cs.setIfInBounds f (.int .i64 0), by simpa using HCS.out, ?_, ?_, hne, hj, by omega, HCELL.out⟩, (((((Kp.refl _ w).set_ ⟨g, f, none⟩ (.inl (.inr rfl)) _).set_ ⟨p, 1, none⟩ (.inl (.inl rfl)) _).set_ ⟨p, 2, none⟩ (.inl (.inl rfl)) _).drewN 3)⟩
  · exact (((HB.out.far (p := ⟨g, f, none⟩) hne (.int .i64 0)).set_ 1 (.int .i64 (j : Int))).set_ 2 (.int .i64 (q.length : Int))).drewN 3
  · exact (((HG.out.set_ f (.int .i64 0)).far (p := ⟨p, 1, none⟩) (fun e => hne e.symm) _).far (p := ⟨p, 2, none⟩) (fun e => hne e.symm) _).drewN 3
end RI
end Go.Proofs.Ytjmakjfnhffehaa.Ring
