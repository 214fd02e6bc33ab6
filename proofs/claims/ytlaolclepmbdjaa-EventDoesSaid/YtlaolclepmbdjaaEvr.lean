/- The walks of ring's functions, of events: eight cells each. -/
import Derived.Test.YtlaolclepmbdjaaLabel
namespace Go.Proofs.Ytlaolclepmbdjaa.Evr
open Go.RowKit Go.Proofs.Ytlaolclepmbdjaa.Bk Go.Proofs.Ytlaolclepmbdjaa.Rw Go.Proofs.Ytlaolclepmbdjaa.Ow Go.Proofs.Ytlaolclepmbdjaa.Kp

/-- An event. -/
structure Ev where
  id : Int
  lab : ByteArray
  loc : Int
  t : Int
  h : Int
  root : Int
  boot : Int
  way : Int
def Ev.cs (e : Ev) : List Value := [.int .i64 e.id, .string e.lab, .int .i64 e.loc, .int .i64 e.t, .int .i64 e.h, .int .i64 e.root, .int .u16 e.boot, .int .i64 e.way]
def Ev.v (e : Ev) : Value := .agg #[.int .i64 e.id, .string e.lab, .int .i64 e.loc, .int .i64 e.t, .int .i64 e.h, .int .i64 e.root, .int .u16 e.boot, .int .i64 e.way]
def ev0 : Ev := ⟨0, ByteArray.empty, 0, 0, 0, 0, 0, 0⟩

theorem blk_of_row8 {w : World} {base : Nat} {e : TypeId} {g n size : Nat} {xs : List Value} (h : w.ownsRow base e size (.slice (some ⟨g, 0, none⟩) n n) n xs) : Blk w g e xs.toArray ∧ xs.length = n * size := by
  refine ⟨?_, h.1⟩
  rcases h.2 with ⟨h1, _⟩ | ⟨g', c, cur, h1, h2, h3, h4, h5, h6, h7⟩
  · cases h1
  · injection h1 with h1 _ h8
    injection h1 with h1
    injection h1 with h1 _ _
    subst h1 h8
    have hx : cur = xs.toArray := by
      apply Array.ext'
      rw [← h7, List.take_of_length_le (by rw [Array.length_toList]; omega)]
    rw [hx] at h3
    exact h3

/-- A ring of events at block p, its cells at block g. -/
def Rg (w : World) (p g room : Nat) (q : List Ev) : Prop :=
  ∃ (f : Nat) (cs : Array Value), cs.size = room * 8 ∧ Blk w p 65 #[.slice (some ⟨g, 0, none⟩) room room, .int .i64 f, .int .i64 q.length] ∧ Blk w g 37 cs ∧ p ≠ g ∧ f < room ∧ q.length ≤ room ∧
    ∀ k e, q[k]? = some e → ∀ j u, e.cs[j]? = some u → cs[((f + k) % room) * 8 + j]? = some u
section
variable {w w' : World} {p g room : Nat} {q : List Ev}
theorem Rg.drewN (h : Rg w p g room q) (n : Nat) : Rg (w.drewN n) p g room q := h
theorem Rg.kp {X : Nat → Prop} (h : Rg w p g room q) (hk : Kp X w w') (hp : ¬ X p) (hg : ¬ X g) : Rg w' p g room q := by
  obtain ⟨f, cs, h1, h2, h3, h4⟩ := h
  exact ⟨f, cs, h1, blk_kp h2 hk hp, blk_kp h3 hk hg, h4⟩
theorem Rg.below (h : Rg w p g room q) (hb : Below w.heap.size w w') : Rg w' p g room q := by
  obtain ⟨f, cs, h1, h2, h3, h4⟩ := h
  exact ⟨f, cs, h1, h2.keeps hb, h3.keeps hb, h4⟩
theorem Rg.lt (h : Rg w p g room q) : p < w.heap.size ∧ g < w.heap.size ∧ p ≠ g := by
  obtain ⟨f, cs, h1, h2, h3, h4, _⟩ := h
  exact ⟨h2.lt, h3.lt, h4⟩
theorem Rg.len_le (h : Rg w p g room q) : q.length ≤ room := by
  obtain ⟨f, cs, h1, h2, h3, h4, h5, h6, _⟩ := h
  exact h6
end

theorem mod_ne {f k k' room : Nat} (hk : k < room) (hk' : k' < room) (h : k ≠ k') : (f + k) % room ≠ (f + k') % room := by
  intro e
  have h1 := Nat.div_add_mod (f + k) room
  have h2 := Nat.div_add_mod (f + k') room
  have h3 : (f + k) / room = (f + k') / room ∨ (f + k) / room < (f + k') / room ∨ (f + k') / room < (f + k) / room := by omega
  rcases h3 with h3 | h3 | h3
  · rw [h3] at h1; omega
  · have := Nat.mul_le_mul_left room (show (f + k) / room + 1 ≤ (f + k') / room from h3)
    rw [Nat.mul_add] at this
    omega
  · have := Nat.mul_le_mul_left room (show (f + k') / room + 1 ≤ (f + k) / room from h3)
    rw [Nat.mul_add] at this
    omega

/-- Eight cells, from o on. -/
def set8 (cs : Array Value) (o : Nat) (e : Ev) : Array Value := ((((((((cs.setIfInBounds (o) (.int .i64 e.id)).setIfInBounds (o + 1) (.string e.lab)).setIfInBounds (o + 2) (.int .i64 e.loc)).setIfInBounds (o + 3) (.int .i64 e.t)).setIfInBounds (o + 4) (.int .i64 e.h)).setIfInBounds (o + 5) (.int .i64 e.root)).setIfInBounds (o + 6) (.int .u16 e.boot)).setIfInBounds (o + 7) (.int .i64 e.way))
def W8 (w : World) (g o : Nat) (e : Ev) : World := ((((((((w.setCell ⟨g, o, none⟩ (.int .i64 e.id)).setCell ⟨g, o + 1, none⟩ (.string e.lab)).setCell ⟨g, o + 2, none⟩ (.int .i64 e.loc)).setCell ⟨g, o + 3, none⟩ (.int .i64 e.t)).setCell ⟨g, o + 4, none⟩ (.int .i64 e.h)).setCell ⟨g, o + 5, none⟩ (.int .i64 e.root)).setCell ⟨g, o + 6, none⟩ (.int .u16 e.boot)).setCell ⟨g, o + 7, none⟩ (.int .i64 e.way))
theorem set8_size (cs : Array Value) (o : Nat) (e : Ev) : (set8 cs o e).size = cs.size := by unfold set8; simp
theorem set8_in {cs : Array Value} {o : Nat} {e : Ev} (h : o + 7 < cs.size) : ∀ i u, e.cs[i]? = some u → (set8 cs o e)[o + i]? = some u := by
  intro i u hu
  have hi : i < 8 := by have := (List.getElem?_eq_some_iff.1 hu).1; simpa [Ev.cs] using this
  unfold set8
  rcases (by omega : i = 0 ∨ i = 1 ∨ i = 2 ∨ i = 3 ∨ i = 4 ∨ i = 5 ∨ i = 6 ∨ i = 7) with rfl | rfl | rfl | rfl | rfl | rfl | rfl | rfl
  · rw [Nat.add_zero o, Array.getElem?_setIfInBounds_ne (by omega), Array.getElem?_setIfInBounds_ne (by omega), Array.getElem?_setIfInBounds_ne (by omega), Array.getElem?_setIfInBounds_ne (by omega), Array.getElem?_setIfInBounds_ne (by omega), Array.getElem?_setIfInBounds_ne (by omega), Array.getElem?_setIfInBounds_ne (by omega), Array.getElem?_setIfInBounds_self_of_lt (by omega)]
    exact hu
  · rw [Array.getElem?_setIfInBounds_ne (by omega), Array.getElem?_setIfInBounds_ne (by omega), Array.getElem?_setIfInBounds_ne (by omega), Array.getElem?_setIfInBounds_ne (by omega), Array.getElem?_setIfInBounds_ne (by omega), Array.getElem?_setIfInBounds_ne (by omega), Array.getElem?_setIfInBounds_self_of_lt (by simp only [Array.size_setIfInBounds]; omega)]
    exact hu
  · rw [Array.getElem?_setIfInBounds_ne (by omega), Array.getElem?_setIfInBounds_ne (by omega), Array.getElem?_setIfInBounds_ne (by omega), Array.getElem?_setIfInBounds_ne (by omega), Array.getElem?_setIfInBounds_ne (by omega), Array.getElem?_setIfInBounds_self_of_lt (by simp only [Array.size_setIfInBounds]; omega)]
    exact hu
  · rw [Array.getElem?_setIfInBounds_ne (by omega), Array.getElem?_setIfInBounds_ne (by omega), Array.getElem?_setIfInBounds_ne (by omega), Array.getElem?_setIfInBounds_ne (by omega), Array.getElem?_setIfInBounds_self_of_lt (by simp only [Array.size_setIfInBounds]; omega)]
    exact hu
  · rw [Array.getElem?_setIfInBounds_ne (by omega), Array.getElem?_setIfInBounds_ne (by omega), Array.getElem?_setIfInBounds_ne (by omega), Array.getElem?_setIfInBounds_self_of_lt (by simp only [Array.size_setIfInBounds]; omega)]
    exact hu
  · rw [Array.getElem?_setIfInBounds_ne (by omega), Array.getElem?_setIfInBounds_ne (by omega), Array.getElem?_setIfInBounds_self_of_lt (by simp only [Array.size_setIfInBounds]; omega)]
    exact hu
  · rw [Array.getElem?_setIfInBounds_ne (by omega), Array.getElem?_setIfInBounds_self_of_lt (by simp only [Array.size_setIfInBounds]; omega)]
    exact hu
  · rw [Array.getElem?_setIfInBounds_self_of_lt (by simp only [Array.size_setIfInBounds]; omega)]
    exact hu
theorem set8_out {cs : Array Value} {o : Nat} {e : Ev} (n : Nat) (h : n < o ∨ o + 8 ≤ n) : (set8 cs o e)[n]? = cs[n]? := by
  unfold set8
  rw [Array.getElem?_setIfInBounds_ne (by omega), Array.getElem?_setIfInBounds_ne (by omega), Array.getElem?_setIfInBounds_ne (by omega), Array.getElem?_setIfInBounds_ne (by omega), Array.getElem?_setIfInBounds_ne (by omega), Array.getElem?_setIfInBounds_ne (by omega), Array.getElem?_setIfInBounds_ne (by omega), Array.getElem?_setIfInBounds_ne (by omega)]
theorem blk8 {w : World} {g : Nat} {t : TypeId} {cs : Array Value} (h : Blk w g t cs) (o : Nat) (e : Ev) : Blk (W8 w g o e) g t (set8 cs o e) := ((((((((h.set_ (o) (.int .i64 e.id)).set_ (o + 1) (.string e.lab)).set_ (o + 2) (.int .i64 e.loc)).set_ (o + 3) (.int .i64 e.t)).set_ (o + 4) (.int .i64 e.h)).set_ (o + 5) (.int .i64 e.root)).set_ (o + 6) (.int .u16 e.boot)).set_ (o + 7) (.int .i64 e.way))
theorem far8 {w : World} {g g' : Nat} {t : TypeId} {cs : Array Value} (h : Blk w g t cs) (hne : g ≠ g') (o : Nat) (e : Ev) : Blk (W8 w g' o e) g t cs := ((((((((h.far (p := ⟨g', o, none⟩) hne (.int .i64 e.id)).far (p := ⟨g', o + 1, none⟩) hne (.string e.lab)).far (p := ⟨g', o + 2, none⟩) hne (.int .i64 e.loc)).far (p := ⟨g', o + 3, none⟩) hne (.int .i64 e.t)).far (p := ⟨g', o + 4, none⟩) hne (.int .i64 e.h)).far (p := ⟨g', o + 5, none⟩) hne (.int .i64 e.root)).far (p := ⟨g', o + 6, none⟩) hne (.int .u16 e.boot)).far (p := ⟨g', o + 7, none⟩) hne (.int .i64 e.way))
theorem kp8 {S : Nat → Prop} {w w1 : World} (h : Kp S w w1) (g : Nat) (hg : S g ∨ w.heap.size ≤ g) (o : Nat) (e : Ev) : Kp S w (W8 w1 g o e) := ((((((((h.set_ ⟨g, o, none⟩ hg (.int .i64 e.id)).set_ ⟨g, o + 1, none⟩ hg (.string e.lab)).set_ ⟨g, o + 2, none⟩ hg (.int .i64 e.loc)).set_ ⟨g, o + 3, none⟩ hg (.int .i64 e.t)).set_ ⟨g, o + 4, none⟩ hg (.int .i64 e.h)).set_ ⟨g, o + 5, none⟩ hg (.int .i64 e.root)).set_ ⟨g, o + 6, none⟩ hg (.int .u16 e.boot)).set_ ⟨g, o + 7, none⟩ hg (.int .i64 e.way))
theorem near {a b i : Nat} (h : a ≠ b) (hi : i < 8) : a * 8 + i < b * 8 ∨ b * 8 + 8 ≤ a * 8 + i := by omega
theorem cs_len {e : Ev} {i : Nat} {u : Value} (h : e.cs[i]? = some u) : i < 8 := by
  have := (List.getElem?_eq_some_iff.1 h).1
  exact this
theorem cells_push {cs : Array Value} {q : List Ev} {f room j : Nat} {e : Ev} (hs : cs.size = room * 8) (hn : q.length < room) (hj : (f + q.length) % room = j) (h : ∀ k x, q[k]? = some x → ∀ i u, x.cs[i]? = some u → cs[((f + k) % room) * 8 + i]? = some u) :
    ∀ k x, (q ++ [e])[k]? = some x → ∀ i u, x.cs[i]? = some u → (set8 cs (j * 8) e)[((f + k) % room) * 8 + i]? = some u := by
  intro k x hx i u hu
  have hi := cs_len hu
  have hjl : j < room := by rw [← hj]; exact Nat.mod_lt _ (by omega)
  rcases Nat.lt_trichotomy k q.length with hk | hk | hk
  · rw [List.getElem?_append_left hk] at hx
    have h3 := mod_ne (f := f) (k := k) (k' := q.length) (room := room) (by omega) hn (by omega)
    rw [hj] at h3
    have h4 := h k x hx i u hu
    generalize (f + k) % room = a at h3 h4 ⊢
    exact (set8_out (a * 8 + i) (near h3 hi)).trans h4
  · subst hk
    rw [List.getElem?_append_right (Nat.le_refl _), Nat.sub_self] at hx
    have hxe : x = e := (Option.some.inj hx).symm
    subst hxe
    rw [hj]
    exact set8_in (by omega) i u hu
  · rw [List.getElem?_eq_none (by rw [List.length_append, List.length_singleton]; omega)] at hx
    cases hx
theorem cells_pop {cs : Array Value} {q : List Ev} {f room : Nat} {x z : Ev} (hf : f < room) (hn : q.length < room) (h : ∀ k y, (x :: q)[k]? = some y → ∀ i u, y.cs[i]? = some u → cs[((f + k) % room) * 8 + i]? = some u) :
    ∀ k y, q[k]? = some y → ∀ i u, y.cs[i]? = some u → (set8 cs (f * 8) z)[(((f + 1) % room + k) % room) * 8 + i]? = some u := by
  intro k y hy i u hu
  have hi := cs_len hu
  have hk : k < q.length := (List.getElem?_eq_some_iff.1 hy).1
  rw [Nat.mod_add_mod, show f + 1 + k = f + (k + 1) by omega]
  have h2 := mod_ne (f := f) (k := k + 1) (k' := 0) (room := room) (by omega) (by omega) (by omega)
  rw [Nat.add_zero f, Nat.mod_eq_of_lt hf] at h2
  have h4 := h (k + 1) y (by simpa using hy) i u hu
  generalize (f + (k + 1)) % room = a at h2 h4 ⊢
  exact (set8_out (a * 8 + i) (near h2 hi)).trans h4

theorem wp_full8 {P : Program} {ops : Array Oper} {rest : List Oper} {o : Oper} {a : Act} {Q : Exit → Act → World → Prop} (t e : TypeId) (w : World) (x y : Operand) (hgd : o.guard = none) (ho : o.op = .makeSlice t x y)
    (ht : P.underlying t = some (.slice e)) (hinfo : (P.info? e).map (fun i => (i.zero, i.size, i.bytes)) = some (some ev0.v, 8, 72)) (_h0 : True = True)
    (kl kc : IntKind) (L C : Int) (n : Nat) (hx : a.eval x = .int kl L) (hy : a.eval y = .int kc C) (hL : L = (n : Int)) (hC : C = (n : Int)) (hb : 72 * n ≤ 281474976710656) (hn : n ≤ maxLen)
    (h : ∀ w' cs, cs.size = n * 8 → Blk w' w.heap.size e cs → w.grownBy w' none → wpList P ops Q rest (a.put o.dst (.slice (some ⟨w.heap.size, 0, none⟩) n n)) w') : wpList P ops Q (o :: rest) a w := by
  obtain ⟨i0, hi, hzz⟩ := Option.map_eq_some_iff.1 hinfo
  simp only [Prod.mk.injEq] at hzz
  obtain ⟨hz0, hz1, hz2⟩ := hzz
  refine wpList_make_full w hgd x y t ho w.heap.size e i0 ev0.v 8 ht hi hz0 hz1 kl kc L C n hx hy hL hC (by rw [hz2]; exact hb) hn (Nat.le_refl _) fun w' h1 h2 => ?_
  have h3 := blk_of_row8 h1
  exact h w' _ (by rw [List.size_toArray]; exact h3.2) h3.1 h2
theorem new_ok (w : World) :
    Calls Try.prog 17 #[.int .i64 16] w fun e w' => ∃ p g, e = .returned (.tuple #[.pointer (some ⟨p, 0, none⟩), .int .i64 0]) ∧ Rg w' p g 16 [] ∧ w.heap.size ≤ p ∧ w.heap.size ≤ g ∧ Below w.heap.size w w' := by
  go_enter Try.func17, Try.ntmps17
  go_wp2_with (with_reducible refine wp_full8 27 37 _ _ _ rfl rfl Try.underlying27 (by kernel_rfl) rfl .i64 .i64 _ _ 16 rfl rfl rfl rfl ?_ ?_ ?_)
  · omega
  · unfold maxLen; omega
  intro w2 cs hcs hb hg
  have HB := Lib.hid hb
  have HW := Lib.hid ((Below.refl w.heap.size w).grown hg (Nat.le_refl _) (fun k hk => by cases hk))
  clear hb hg
  go_wp2
  go_ret2
  refine ⟨w2.heap.size, w.heap.size, rfl, ⟨0, cs, hcs, Blk.new _ _ _, HB.out.alloc _, ?_, by omega, Nat.zero_le _, fun k u h => by simp at h⟩, HW.out.size, Nat.le_refl _, HW.out.alloc HW.out.size _⟩
  have := HB.out.lt
  omega
theorem len_ok (p g room : Nat) (q : List Ev) (w : World) (h : Rg w p g room q) :
    Calls Try.prog 20 #[.pointer (some ⟨p, 0, none⟩)] w fun e w' => e = .returned (.int .i64 q.length) ∧ w = w' := by
  obtain ⟨f, cs, _, hb, _⟩ := h
  have c2 : w.cell? ⟨p, 2, none⟩ = some (.int .i64 q.length) := hb.cell 2
  clear hb
  go_enter Try.func20, Try.ntmps20
  go_wp2
  go_ret
  exact ⟨rfl, rfl⟩
theorem push_full (p g room : Nat) (q : List Ev) (e : Ev) (w : World) (h : Rg w p g room q) (hq : q.length = room) :
    Calls Try.prog 19 #[.pointer (some ⟨p, 0, none⟩), e.v] w fun x w' => x = .returned (.int .i64 6) ∧ Below w.heap.size w w' := by
  obtain ⟨f, cs, _, hb, _⟩ := h
  have HA := Lib.hid ((Below.refl w.heap.size w).alloc (Nat.le_refl _) (.cells #[.int .i64 e.id, .string e.lab, .int .i64 e.loc, .int .i64 e.t, .int .i64 e.h, .int .i64 e.root, .int .u16 e.boot, .int .i64 e.way] 37))
  rw [hq] at hb
  have c0 : ∀ o, (w.alloc o).cell? ⟨p, 0, none⟩ = some (.slice (some ⟨g, 0, none⟩) room room) := fun o => (hb.alloc o).cell 0
  have c2 : ∀ o, (w.alloc o).cell? ⟨p, 2, none⟩ = some (.int .i64 room) := fun o => (hb.alloc o).cell 2
  clear hb hq
  unfold Ev.v
  go_enter Try.func19, Try.ntmps19
  go_wp2
  go_quiet (fail)
  go_wp2
  go_ret
  exact ⟨rfl, below_drewN_ HA.out nq⟩
theorem push_ok (p g room : Nat) (q : List Ev) (e : Ev) (w : World) (h : Rg w p g room q) (hq : q.length < room) (hr : room ≤ 64) :
    Calls Try.prog 19 #[.pointer (some ⟨p, 0, none⟩), e.v] w fun x w' => x = .returned (.int .i64 0) ∧ Rg w' p g room (q ++ [e]) ∧ Kp (fun k => k = p ∨ k = g) w w' := by
  obtain ⟨f, cs, hcs, hb, hg, hne, hf, hle, hcell⟩ := h
  have hj : (f + q.length) % room < room := Nat.mod_lt _ (by omega)
  obtain ⟨w1, hw1, hb1, hg1, hbox, hk1⟩ : ∃ w1, w.alloc (.cells #[.int .i64 e.id, .string e.lab, .int .i64 e.loc, .int .i64 e.t, .int .i64 e.h, .int .i64 e.root, .int .u16 e.boot, .int .i64 e.way] 37) = w1 ∧ Blk w1 p 65 #[.slice (some ⟨g, 0, none⟩) room room, .int .i64 f, .int .i64 q.length] ∧ Blk w1 g 37 cs ∧ Blk w1 w.heap.size 37 e.cs.toArray ∧ Kp (fun k => k = p ∨ k = g) w w1 := ⟨_, rfl, hb.alloc _, hg.alloc _, Blk.new _ _ _, (Kp.refl _ w).alloc _⟩
  have hm : ((f : Int) + (q.length : Int)).tmod (room : Int) = (((f + q.length) % room : Nat) : Int) := by
    rw [Int.tmod_eq_emod_of_nonneg (by omega)]
    simp
  have hn : ((q.length : Int) == (room : Int)) = false := by simp; omega
  have HCELL := Lib.hid hcell
  have HCL0 := Lib.hid (fun j hj => cells_push (e := e) (j := j) hcs hq hj hcell)
  generalize hjj : (f + q.length) % room = j at hj hm
  have HCL := Lib.hid (HCL0.out j hjj)
  have c0 : w1.cell? ⟨p, 0, none⟩ = some (.slice (some ⟨g, 0, none⟩) room room) := hb1.cell 0
  have c1 : w1.cell? ⟨p, 1, none⟩ = some (.int .i64 f) := hb1.cell 1
  have c2 : w1.cell? ⟨p, 2, none⟩ = some (.int .i64 q.length) := hb1.cell 2
  have f2 := hb1.frozen 2
  have x0 : w1.cell? ⟨w.heap.size, 0, none⟩ = some (.int .i64 e.id) := hbox.cell 0
  have x1 : w1.cell? ⟨w.heap.size, 1, none⟩ = some (.string e.lab) := hbox.cell 1
  have x2 : w1.cell? ⟨w.heap.size, 2, none⟩ = some (.int .i64 e.loc) := hbox.cell 2
  have x3 : w1.cell? ⟨w.heap.size, 3, none⟩ = some (.int .i64 e.t) := hbox.cell 3
  have x4 : w1.cell? ⟨w.heap.size, 4, none⟩ = some (.int .i64 e.h) := hbox.cell 4
  have x5 : w1.cell? ⟨w.heap.size, 5, none⟩ = some (.int .i64 e.root) := hbox.cell 5
  have x6 : w1.cell? ⟨w.heap.size, 6, none⟩ = some (.int .u16 e.boot) := hbox.cell 6
  have x7 : w1.cell? ⟨w.heap.size, 7, none⟩ = some (.int .i64 e.way) := hbox.cell 7
  have hlt8 : ∀ i, i < 8 → j * 8 + i < cs.size := fun i hi => by omega
  have gc : ∀ i, i < 8 → ∃ u, w1.cell? ⟨g, j * 8 + i, none⟩ = some u := fun i hi => ⟨_, (hg1.cell _).trans (Array.getElem?_eq_getElem (hlt8 i hi))⟩
  obtain ⟨u0, y0⟩ := gc 0 (by omega)
  obtain ⟨u1, y1⟩ := gc 1 (by omega)
  obtain ⟨u2, y2⟩ := gc 2 (by omega)
  obtain ⟨u3, y3⟩ := gc 3 (by omega)
  obtain ⟨u4, y4⟩ := gc 4 (by omega)
  obtain ⟨u5, y5⟩ := gc 5 (by omega)
  obtain ⟨u6, y6⟩ := gc 6 (by omega)
  obtain ⟨u7, y7⟩ := gc 7 (by omega)
  rw [Nat.add_zero] at y0
  have z0 := hg1.frozen (j * 8)
  have z1 := hg1.frozen (j * 8 + 1)
  have z2 := hg1.frozen (j * 8 + 2)
  have z3 := hg1.frozen (j * 8 + 3)
  have z4 := hg1.frozen (j * 8 + 4)
  have z5 := hg1.frozen (j * 8 + 5)
  have z6 := hg1.frozen (j * 8 + 6)
  have z7 := hg1.frozen (j * 8 + 7)
  have HB := Lib.hid hb1
  have HG := Lib.hid hg1
  have HCS := Lib.hid hcs
  have HK := Lib.hid hk1
  have hroom : ¬ room = 0 := by omega
  have hwp : w.heap.size ≠ p := by have := hb.lt; omega
  have hwg : w.heap.size ≠ g := by have := hg.lt; omega
  clear hcell hb hg hcs hjj hb1 hg1 hbox hk1 gc hlt8 HCL0 HCELL
  unfold Ev.v
  go_enter Try.func19, Try.ntmps19
  go_wp2
  clear hw1
  go_quiet (fail)
  go_wp2
  go_region
  go_wp2
  go_ret
  refine ⟨rfl, ⟨f, set8 cs (j * 8) e, by rw [set8_size]; exact HCS.out, ?_, ?_, hne, hf, by rw [List.length_append, List.length_singleton]; omega, HCL.out⟩, ?_⟩
  · have h := (far8 (HB.out.drewN (nq + 1)) hne (j * 8) e).set_ 2 (.int .i64 ((q.length : Int) + 1))
    rw [List.length_append, List.length_singleton]
    exact h
  · exact (blk8 (HG.out.drewN (nq + 1)) (j * 8) e).far (p := ⟨p, 2, none⟩) (fun e => hne e.symm) _
  · exact (kp8 (HK.out.drewN (nq + 1)) g (.inl (.inr rfl)) (j * 8) e).set_ ⟨p, 2, none⟩ (.inl (.inl rfl)) _
theorem ret18 (Q : Ending → World → Prop) (a : Act) (W : World) (b : Nat) (e : Ev) (ok : Bool) (h2 : a.tmps.getD 2 undef = .pointer (some ⟨b, 0, none⟩)) (h3 : a.tmps.getD 3 undef = .bool ok) (hd : a.defers = [])
    (hb : Blk W b 37 e.cs.toArray) (hq : Q (.returned (.tuple #[e.v, .bool ok])) W) : bodyPost Try.prog Try.f18 Q .ret a W := by
  have q0 : W.cell? ⟨b, 0, none⟩ = some (.int .i64 e.id) := hb.cell 0
  have q1 : W.cell? ⟨b, 1, none⟩ = some (.string e.lab) := hb.cell 1
  have q2 : W.cell? ⟨b, 2, none⟩ = some (.int .i64 e.loc) := hb.cell 2
  have q3 : W.cell? ⟨b, 3, none⟩ = some (.int .i64 e.t) := hb.cell 3
  have q4 : W.cell? ⟨b, 4, none⟩ = some (.int .i64 e.h) := hb.cell 4
  have q5 : W.cell? ⟨b, 5, none⟩ = some (.int .i64 e.root) := hb.cell 5
  have q6 : W.cell? ⟨b, 6, none⟩ = some (.int .u16 e.boot) := hb.cell 6
  have q7 : W.cell? ⟨b, 7, none⟩ = some (.int .i64 e.way) := hb.cell 7
  obtain ⟨tmps, defers⟩ := a
  simp only at h2 h3 hd
  subst hd
  rw [Array.getD_eq_getD_getElem?] at h2 h3
  refine bodyPost_ret (v := .tuple #[e.v, .bool ok]) ?_ rfl hq
  simp [results, Try.results18, go_sem, h2, h3, q0, q1, q2, q3, q4, q5, q6, q7, Ev.v]
theorem blk_two (w : World) : ∃ w1, (w.alloc (.cells #[.int .i64 0, .string ⟨#[]⟩, .int .i64 0, .int .i64 0, .int .i64 0, .int .i64 0, .int .u16 0, .int .i64 0] 37)).alloc (.cells #[.int .i64 0, .string ⟨#[]⟩, .int .i64 0, .int .i64 0, .int .i64 0, .int .i64 0, .int .u16 0, .int .i64 0] 37) = w1 ∧ Blk w1 w.heap.size 37 ev0.cs.toArray ∧ Blk w1 (w.heap.size + 1) 37 ev0.cs.toArray ∧ Below w.heap.size w w1 ∧ w1.heap.size = w.heap.size + 2 := by
  refine ⟨_, rfl, (Blk.new w 37 _).alloc _, ?_, ((Below.refl _ w).alloc (Nat.le_refl _) _).alloc (by simp) _, by simp⟩
  have h := Blk.new (w.alloc (.cells ev0.cs.toArray 37)) 37 ev0.cs.toArray
  rw [World.size_alloc] at h
  exact h
theorem reads8 {w : World} {b : Nat} {e : Ev} (h : Blk w b 37 e.cs.toArray) : w.cell? ⟨b, 0, none⟩ = some (.int .i64 e.id) ∧ w.cell? ⟨b, 1, none⟩ = some (.string e.lab) ∧ w.cell? ⟨b, 2, none⟩ = some (.int .i64 e.loc) ∧ w.cell? ⟨b, 3, none⟩ = some (.int .i64 e.t) ∧ w.cell? ⟨b, 4, none⟩ = some (.int .i64 e.h) ∧ w.cell? ⟨b, 5, none⟩ = some (.int .i64 e.root) ∧ w.cell? ⟨b, 6, none⟩ = some (.int .u16 e.boot) ∧ w.cell? ⟨b, 7, none⟩ = some (.int .i64 e.way) :=
  ⟨h.cell 0, h.cell 1, h.cell 2, h.cell 3, h.cell 4, h.cell 5, h.cell 6, h.cell 7⟩
theorem set8_whole (e e' : Ev) : set8 e.cs.toArray 0 e' = e'.cs.toArray := by
  simp [set8, Ev.cs, List.setIfInBounds_toArray]
set_option maxHeartbeats 1600000 in
theorem pop_none (p g room : Nat) (w : World) (h : Rg w p g room []) :
    Calls Try.prog 18 #[.pointer (some ⟨p, 0, none⟩)] w fun x w' => x = .returned (.tuple #[ev0.v, .bool false]) ∧ Below w.heap.size w w' := by
  obtain ⟨w1, hw1, hz, hy, hb, hs⟩ := blk_two w
  have HZ := Lib.hid hz
  have HY := Lib.hid hy
  have HB := Lib.hid hb
  have HR := Lib.hid (h.below hb)
  obtain ⟨r0, r1, r2, r3, r4, r5, r6, r7⟩ := reads8 hy
  simp only [ev0] at r0 r1 r2 r3 r4 r5 r6 r7
  obtain ⟨x0, x1, x2, x3, x4, x5, x6, x7⟩ := reads8 hz
  simp only [ev0] at x0 x1 x2 x3 x4 x5 x6 x7
  have z0 := hz.frozen 0
  have z1 := hz.frozen 1
  have z2 := hz.frozen 2
  have z3 := hz.frozen 3
  have z4 := hz.frozen 4
  have z5 := hz.frozen 5
  have z6 := hz.frozen 6
  have z7 := hz.frozen 7
  clear h hz hy hb
  go_enter Try.func18, Try.ntmps18
  go_wp2_with (go_at_call 20; with_reducible refine Calls.mono (len_ok p g room [] _ HR.out) ?_; rintro e w' ⟨rfl, rfl⟩)
  exact ret18 _ _ _ _ ev0 false rfl rfl rfl ((set8_whole ev0 ev0) ▸ (blk8 HZ.out 0 ev0)) ⟨rfl, below_kp HB.out (by omega) (kp8 (Kp.refl (fun k => w.heap.size ≤ k) w1) w.heap.size (.inl (Nat.le_refl _)) 0 ev0) (fun k hk => hk)⟩
theorem blk_three (w : World) : ∃ w1 w2, (w.alloc (.cells #[.int .i64 0, .string ⟨#[]⟩, .int .i64 0, .int .i64 0, .int .i64 0, .int .i64 0, .int .u16 0, .int .i64 0] 37)).alloc (.cells #[.int .i64 0, .string ⟨#[]⟩, .int .i64 0, .int .i64 0, .int .i64 0, .int .i64 0, .int .u16 0, .int .i64 0] 37) = w1 ∧ w1.alloc (.cells #[.int .i64 0, .string ⟨#[]⟩, .int .i64 0, .int .i64 0, .int .i64 0, .int .i64 0, .int .u16 0, .int .i64 0] 37) = w2 ∧ Blk w2 w.heap.size 37 ev0.cs.toArray ∧ Blk w2 (w.heap.size + 1) 37 ev0.cs.toArray ∧ Blk w2 (w.heap.size + 2) 37 ev0.cs.toArray ∧ Below w.heap.size w w1 ∧ Below w1.heap.size w1 w2 ∧ w1.heap.size = w.heap.size + 2 ∧ w2.heap.size = w.heap.size + 3 := by
  obtain ⟨w1, hw1, hz, hy, hb, hs⟩ := blk_two w
  refine ⟨w1, _, hw1, rfl, hz.alloc _, hy.alloc _, ?_, hb, (Below.refl _ w1).alloc (Nat.le_refl _) _, hs, by simp [hs]⟩
  have h := Blk.new w1 37 ev0.cs.toArray
  rw [hs] at h
  exact h
set_option maxHeartbeats 4000000 in
theorem pop_ok (p g room : Nat) (e : Ev) (q : List Ev) (w : World) (h : Rg w p g room (e :: q)) (hr : room ≤ 64) :
    Calls Try.prog 18 #[.pointer (some ⟨p, 0, none⟩)] w fun x w' => x = .returned (.tuple #[e.v, .bool true]) ∧ Rg w' p g room q ∧ Kp (fun k => k = p ∨ k = g) w w' := by
  obtain ⟨w1, w2, hw1, hw2, hz, hy, hx, hb, hb2, hs, hs2⟩ := blk_three w
  subst hw2
  have hpw := h.lt
  have h1 := h.below hb
  obtain ⟨w3, hw3, hz3, hy3, hx3, hp3, hg3, hb3⟩ : ∃ w3, (w1.alloc (.cells #[.int .i64 e.id, .string e.lab, .int .i64 e.loc, .int .i64 e.t, .int .i64 e.h, .int .i64 e.root, .int .u16 e.boot, .int .i64 e.way] 37)).drew = w3 ∧ Blk w3 w.heap.size 37 ev0.cs.toArray ∧ Blk w3 (w.heap.size + 1) 37 ev0.cs.toArray ∧ Blk w3 (w.heap.size + 2) 37 e.cs.toArray ∧ (∀ t cs, Blk w1 p t cs → Blk w3 p t cs) ∧ (∀ t cs, Blk w1 g t cs → Blk w3 g t cs) ∧ Below w.heap.size w w3 := by
    obtain ⟨w1', h1', h2', h3', h4', h5'⟩ := blk_two w
    rw [hw1] at h1'
    subst h1'
    refine ⟨_, rfl, (h2'.alloc _).drew, (h3'.alloc _).drew, ?_, fun t cs h => (h.alloc _).drew, fun t cs h => (h.alloc _).drew, (hb.alloc (by omega) _).drew⟩
    have h6 := Blk.new w1 37 e.cs.toArray
    rw [hs] at h6
    exact h6
  have HZ := Lib.hid hz3
  have HY := Lib.hid hy3
  have HX := Lib.hid hx3
  have HB := Lib.hid hb3
  have HR := Lib.hid h1
  obtain ⟨f, cs, hcs, hb1, hg1, hne, hf, hle, hcell⟩ := h1
  obtain ⟨x0, x1, x2, x3, x4, x5, x6, x7⟩ := reads8 hx
  simp only [ev0] at x0 x1 x2 x3 x4 x5 x6 x7
  have z0 := hx.frozen 0
  have z1 := hx.frozen 1
  have z2 := hx.frozen 2
  have z3 := hx.frozen 3
  have z4 := hx.frozen 4
  have z5 := hx.frozen 5
  have z6 := hx.frozen 6
  have z7 := hx.frozen 7
  have hlen : ¬ ((q.length : Int) + 1 = 0) := by omega
  have hf0 : (f + 0) % room = f := Nat.mod_eq_of_lt (by omega)
  have hk0 := hcell 0 e rfl
  rw [hf0] at hk0
  have gc : ∀ i u, e.cs[i]? = some u → w1.cell? ⟨g, f * 8 + i, none⟩ = some u := fun i u hu => (hg1.cell _).trans (hk0 i u hu)
  have gc' : ∀ i u, e.cs[i]? = some u → (w1.alloc (.cells #[.int .i64 0, .string ⟨#[]⟩, .int .i64 0, .int .i64 0, .int .i64 0, .int .i64 0, .int .u16 0, .int .i64 0] 37)).cell? ⟨g, f * 8 + i, none⟩ = some u := fun i u hu => ((hg1.alloc _).cell _).trans (hk0 i u hu)
  have y0 : w1.cell? ⟨g, f * 8, none⟩ = some (.int .i64 e.id) := gc 0 _ rfl
  have y0' : (w1.alloc (.cells #[.int .i64 0, .string ⟨#[]⟩, .int .i64 0, .int .i64 0, .int .i64 0, .int .i64 0, .int .u16 0, .int .i64 0] 37)).cell? ⟨g, f * 8, none⟩ = some (.int .i64 e.id) := gc' 0 _ rfl
  have y1 : w1.cell? ⟨g, f * 8 + 1, none⟩ = some (.string e.lab) := gc 1 _ rfl
  have y1' : (w1.alloc (.cells #[.int .i64 0, .string ⟨#[]⟩, .int .i64 0, .int .i64 0, .int .i64 0, .int .i64 0, .int .u16 0, .int .i64 0] 37)).cell? ⟨g, f * 8 + 1, none⟩ = some (.string e.lab) := gc' 1 _ rfl
  have y2 : w1.cell? ⟨g, f * 8 + 2, none⟩ = some (.int .i64 e.loc) := gc 2 _ rfl
  have y2' : (w1.alloc (.cells #[.int .i64 0, .string ⟨#[]⟩, .int .i64 0, .int .i64 0, .int .i64 0, .int .i64 0, .int .u16 0, .int .i64 0] 37)).cell? ⟨g, f * 8 + 2, none⟩ = some (.int .i64 e.loc) := gc' 2 _ rfl
  have y3 : w1.cell? ⟨g, f * 8 + 3, none⟩ = some (.int .i64 e.t) := gc 3 _ rfl
  have y3' : (w1.alloc (.cells #[.int .i64 0, .string ⟨#[]⟩, .int .i64 0, .int .i64 0, .int .i64 0, .int .i64 0, .int .u16 0, .int .i64 0] 37)).cell? ⟨g, f * 8 + 3, none⟩ = some (.int .i64 e.t) := gc' 3 _ rfl
  have y4 : w1.cell? ⟨g, f * 8 + 4, none⟩ = some (.int .i64 e.h) := gc 4 _ rfl
  have y4' : (w1.alloc (.cells #[.int .i64 0, .string ⟨#[]⟩, .int .i64 0, .int .i64 0, .int .i64 0, .int .i64 0, .int .u16 0, .int .i64 0] 37)).cell? ⟨g, f * 8 + 4, none⟩ = some (.int .i64 e.h) := gc' 4 _ rfl
  have y5 : w1.cell? ⟨g, f * 8 + 5, none⟩ = some (.int .i64 e.root) := gc 5 _ rfl
  have y5' : (w1.alloc (.cells #[.int .i64 0, .string ⟨#[]⟩, .int .i64 0, .int .i64 0, .int .i64 0, .int .i64 0, .int .u16 0, .int .i64 0] 37)).cell? ⟨g, f * 8 + 5, none⟩ = some (.int .i64 e.root) := gc' 5 _ rfl
  have y6 : w1.cell? ⟨g, f * 8 + 6, none⟩ = some (.int .u16 e.boot) := gc 6 _ rfl
  have y6' : (w1.alloc (.cells #[.int .i64 0, .string ⟨#[]⟩, .int .i64 0, .int .i64 0, .int .i64 0, .int .i64 0, .int .u16 0, .int .i64 0] 37)).cell? ⟨g, f * 8 + 6, none⟩ = some (.int .u16 e.boot) := gc' 6 _ rfl
  have y7 : w1.cell? ⟨g, f * 8 + 7, none⟩ = some (.int .i64 e.way) := gc 7 _ rfl
  have y7' : (w1.alloc (.cells #[.int .i64 0, .string ⟨#[]⟩, .int .i64 0, .int .i64 0, .int .i64 0, .int .i64 0, .int .u16 0, .int .i64 0] 37)).cell? ⟨g, f * 8 + 7, none⟩ = some (.int .i64 e.way) := gc' 7 _ rfl
  have c0 : w1.cell? ⟨p, 0, none⟩ = some (.slice (some ⟨g, 0, none⟩) room room) := hb1.cell 0
  have c0' : (w1.alloc (.cells #[.int .i64 0, .string ⟨#[]⟩, .int .i64 0, .int .i64 0, .int .i64 0, .int .i64 0, .int .u16 0, .int .i64 0] 37)).cell? ⟨p, 0, none⟩ = some (.slice (some ⟨g, 0, none⟩) room room) := (hb1.alloc _).cell 0
  have c1 : w1.cell? ⟨p, 1, none⟩ = some (.int .i64 f) := hb1.cell 1
  have c1' : (w1.alloc (.cells #[.int .i64 0, .string ⟨#[]⟩, .int .i64 0, .int .i64 0, .int .i64 0, .int .i64 0, .int .u16 0, .int .i64 0] 37)).cell? ⟨p, 1, none⟩ = some (.int .i64 f) := (hb1.alloc _).cell 1
  have hroom : ¬ room = 0 := by omega
  have H1 := Lib.hid (hp3 _ _ hb1)
  have H2 := Lib.hid (hg3 _ _ hg1)
  have HCELL := Lib.hid hcell
  have HCS := Lib.hid hcs
  have HW := Lib.hid hw3
  clear hw3 hz3 hy3 hx3 hp3 hg3 hb3
  clear h hz hy hx hb hb2 hb1 hg1 hcell hcs gc gc' hk0 hf0
  go_enter Try.func18, Try.ntmps18
  go_wp2_with (go_at_call 20; with_reducible refine Calls.mono (len_ok p g room _ _ HR.out) ?_; rintro e w' ⟨rfl, rfl⟩)
  go_region
  clear y0 y1 y2 y3 y4 y5 y6 y7 y0' y1' y2' y3' y4' y5' y6' y7' c0 c1 c0' c1' x0 x1 x2 x3 x4 x5 x6 x7 z0 z1 z2 z3 z4 z5 z6 z7
  obtain ⟨r0, r1, r2, r3, r4, r5, r6, r7⟩ := reads8 HY.out
  simp only [ev0] at r0 r1 r2 r3 r4 r5 r6 r7
  have c0 : w3.cell? ⟨p, 0, none⟩ = some (.slice (some ⟨g, 0, none⟩) room room) := H1.out.cell 0
  have c1 : w3.cell? ⟨p, 1, none⟩ = some (.int .i64 f) := H1.out.cell 1
  have hlt8 : ∀ i, i < 8 → f * 8 + i < cs.size := fun i hi => by have := HCS.out; omega
  have gc : ∀ i, i < 8 → ∃ u, w3.cell? ⟨g, f * 8 + i, none⟩ = some u := fun i hi => ⟨_, (H2.out.cell _).trans (Array.getElem?_eq_getElem (hlt8 i hi))⟩
  obtain ⟨u0, y0⟩ := gc 0 (by omega)
  obtain ⟨u1, y1⟩ := gc 1 (by omega)
  obtain ⟨u2, y2⟩ := gc 2 (by omega)
  obtain ⟨u3, y3⟩ := gc 3 (by omega)
  obtain ⟨u4, y4⟩ := gc 4 (by omega)
  obtain ⟨u5, y5⟩ := gc 5 (by omega)
  obtain ⟨u6, y6⟩ := gc 6 (by omega)
  obtain ⟨u7, y7⟩ := gc 7 (by omega)
  rw [Nat.add_zero] at y0
  have z0 := H2.out.frozen (f * 8)
  have z1 := H2.out.frozen (f * 8 + 1)
  have z2 := H2.out.frozen (f * 8 + 2)
  have z3 := H2.out.frozen (f * 8 + 3)
  have z4 := H2.out.frozen (f * 8 + 4)
  have z5 := H2.out.frozen (f * 8 + 5)
  have z6 := H2.out.frozen (f * 8 + 6)
  have z7 := H2.out.frozen (f * 8 + 7)
  have hw3 := HW.out
  clear HW gc hlt8
  rw [hw3]
  clear hw3
  go_wp2
  go_region
  obtain ⟨w4, hw4, hp4, hg4, hz4, hx4, hb4⟩ : ∃ w4, (W8 w3 g (f * 8) ev0).drew = w4 ∧ Blk w4 p 65 #[.slice (some ⟨g, 0, none⟩) room room, .int .i64 f, .int .i64 ((e :: q).length : Nat)] ∧ Blk w4 g 37 (set8 cs (f * 8) ev0) ∧ Blk w4 w.heap.size 37 ev0.cs.toArray ∧ Blk w4 (w.heap.size + 2) 37 e.cs.toArray ∧ Kp (fun k => k = p ∨ k = g) w w4 :=
    ⟨_, rfl, (far8 H1.out hne (f * 8) ev0).drew, (blk8 H2.out (f * 8) ev0).drew, (far8 HZ.out (by omega) (f * 8) ev0).drew, (far8 HX.out (by omega) (f * 8) ev0).drew, (kp8 (Kp.of_below HB.out) g (.inl (.inr rfl)) (f * 8) ev0).drew⟩
  simp only [W8, ev0] at hw4
  rw [show (ByteArray.empty : ByteArray) = ⟨#[]⟩ from rfl] at hw4
  rw [show (ByteArray.empty : ByteArray) = ⟨#[]⟩ from rfl]
  rw [hw4]
  clear y0 y1 y2 y3 y4 y5 y6 y7 c0 c1 r0 r1 r2 r3 r4 r5 r6 r7 z0 z1 z2 z3 z4 z5 z6 z7 hw4 u0 u1 u2 u3 u4 u5 u6 u7
  have c0 : w4.cell? ⟨p, 0, none⟩ = some (.slice (some ⟨g, 0, none⟩) room room) := hp4.cell 0
  have c1 : w4.cell? ⟨p, 1, none⟩ = some (.int .i64 f) := hp4.cell 1
  have c2 : w4.cell? ⟨p, 2, none⟩ = some (.int .i64 ((q.length : Int) + 1)) := hp4.cell 2
  have f1 := hp4.frozen 1
  have f2 := hp4.frozen 2
  obtain ⟨x0, x1, x2, x3, x4, x5, x6, x7⟩ := reads8 hz4
  simp only [ev0] at x0 x1 x2 x3 x4 x5 x6 x7
  obtain ⟨r0, r1, r2, r3, r4, r5, r6, r7⟩ := reads8 hx4
  have z0 := hz4.frozen 0
  have z1 := hz4.frozen 1
  have z2 := hz4.frozen 2
  have z3 := hz4.frozen 3
  have z4 := hz4.frozen 4
  have z5 := hz4.frozen 5
  have z6 := hz4.frozen 6
  have z7 := hz4.frozen 7
  have HP4 := Lib.hid hp4
  have HG4 := Lib.hid hg4
  have HZ4 := Lib.hid hz4
  have HX4 := Lib.hid hx4
  have HB4 := Lib.hid hb4
  have hm : ((f : Int) + 1).tmod (room : Int) = (((f + 1) % room : Nat) : Int) := by
    rw [Int.tmod_eq_emod_of_nonneg (by omega)]
    simp
  have hj : (f + 1) % room < room := Nat.mod_lt _ (by omega)
  have hpz : ¬ p = w.heap.size := by omega
  have hpx : ¬ p = w.heap.size + 2 := by omega
  have hzp : ¬ w.heap.size = p := by omega
  have hxp : ¬ w.heap.size + 2 = p := by omega
  clear hp4 hg4 hz4 hx4 hb4 H1 H2 HZ HX HY HB
  generalize hjj : (f + 1) % room = j at hj hm
  go_wp2
  go_region
  go_wp2
  have hwq : wrap64 (q.length : Int) = (q.length : Int) := by
    have : (e :: q).length = q.length + 1 := rfl
    unfold wrap64
    omega
  rw [hwq]
  refine ret18 _ _ _ _ e true rfl rfl rfl ((set8_whole ev0 e) ▸ ((blk8 ((HZ4.out.far (p := ⟨p, 1, none⟩) hzp _).far (p := ⟨p, 2, none⟩) hzp _) 0 e).drew)) ⟨rfl, ⟨j, set8 cs (f * 8) ev0, by rw [set8_size]; exact HCS.out, ?_, ?_, hne, hj, ?_, ?_⟩, ?_⟩
  · exact (far8 ((HP4.out.set_ 1 (.int .i64 j)).set_ 2 (.int .i64 q.length)) hpz 0 e).drew
  · exact (far8 ((HG4.out.far (p := ⟨p, 1, none⟩) (fun e => hne e.symm) _).far (p := ⟨p, 2, none⟩) (fun e => hne e.symm) _) (by omega) 0 e).drew
  · have : (e :: q).length = q.length + 1 := rfl
    omega
  · have h := cells_pop (z := ev0) hf (by have : (e :: q).length = q.length + 1 := rfl; omega) HCELL.out
    rw [hjj] at h
    exact h
  · exact (kp8 ((HB4.out.set_ ⟨p, 1, none⟩ (.inl (.inl rfl)) _).set_ ⟨p, 2, none⟩ (.inl (.inl rfl)) _) w.heap.size (.inr (Nat.le_refl _)) 0 e).drew
end Go.Proofs.Ytlaolclepmbdjaa.Evr
