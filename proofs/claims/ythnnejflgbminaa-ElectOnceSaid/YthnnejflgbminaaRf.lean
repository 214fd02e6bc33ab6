/- The reference's node: a block of 200 cells, told by the marks' function; arrays as blocks of cells. -/
import Derived.Test.YthnnejflgbminaaEw
namespace Go.Proofs.Ythnnejflgbminaa.El
open Go.RowKit Go.Proofs.Ythnnejflgbminaa.Bk Go.Proofs.Ythnnejflgbminaa.Rw Go.Proofs.Ythnnejflgbminaa.Ow Go.Proofs.Ythnnejflgbminaa.Kp Go.Proofs.Ythnnejflgbminaa.Sq Go.Proofs.Ythnnejflgbminaa.Ck Go.Proofs.Ythnnejflgbminaa.Ck2 Go.Proofs.Ythnnejflgbminaa.Mp

/-- Block b is a row of n cells of type t: cell i holds c i. -/
def Cs (w : World) (b : Nat) (t : TypeId) (n : Nat) (c : Nat → Value) : Prop := ∃ cs : Array Value, Blk w b t cs ∧ cs.size = n ∧ ∀ i, i < n → cs[i]? = some (c i)
section
variable {w w' : World} {b n : Nat} {t : TypeId} {c c' : Nat → Value}
theorem Cs.lt (h : Cs w b t n c) : b < w.heap.size := let ⟨_, h1, _, _⟩ := h; h1.lt
theorem Cs.alloc (h : Cs w b t n c) (o : Obj) : Cs (w.alloc o) b t n c := let ⟨cs, h1, h2, h3⟩ := h; ⟨cs, h1.alloc o, h2, h3⟩
theorem Cs.drew (h : Cs w b t n c) : Cs w.drew b t n c := let ⟨cs, h1, h2, h3⟩ := h; ⟨cs, h1.drew, h2, h3⟩
theorem Cs.kp {S : Nat → Prop} (h : Cs w b t n c) (hk : Kp S w w') (hb : ¬ S b) : Cs w' b t n c := let ⟨cs, h1, h2, h3⟩ := h; ⟨cs, blk_kp h1 hk hb, h2, h3⟩
theorem Cs.keeps (h : Cs w b t n c) (hb : Below w.heap.size w w') : Cs w' b t n c := let ⟨cs, h1, h2, h3⟩ := h; ⟨cs, h1.keeps hb, h2, h3⟩
theorem Cs.far {g i : Nat} {u : Value} (h : Cs w b t n c) (hb : ¬ b = g) : Cs (w.setCell ⟨g, i, none⟩ u) b t n c := let ⟨cs, h1, h2, h3⟩ := h; ⟨cs, set_far hb h1, h2, h3⟩
theorem Cs.cell (h : Cs w b t n c) {i : Nat} (hi : i < n) : w.cell? ⟨b, i, none⟩ = some (c i) := let ⟨_, h1, _, h3⟩ := h; (h1.cell i).trans (h3 i hi)
theorem Cs.frozen (h : Cs w b t n c) (i : Nat) : w.frozen? ⟨b, i, none⟩ = false := let ⟨_, h1, _, _⟩ := h; h1.frozen i
theorem Cs.congr (h : Cs w b t n c) (he : ∀ i, i < n → c i = c' i) : Cs w b t n c' := let ⟨cs, h1, h2, h3⟩ := h; ⟨cs, h1, h2, fun i hi => (he i hi) ▸ h3 i hi⟩
theorem Cs.set (h : Cs w b t n c) (i : Nat) (u : Value) : Cs (w.setCell ⟨b, i, none⟩ u) b t n (fun j => if j = i then u else c j) := by
  obtain ⟨cs, h1, h2, h3⟩ := h
  refine ⟨cs.setIfInBounds i u, h1.set_ i u, by simp [h2], fun j hj => ?_⟩
  by_cases e : j = i
  · subst e
    simp [h2, hj]
  · simp only [if_neg e]
    rw [Array.getElem?_setIfInBounds_ne (fun h => e h.symm)]
    exact h3 j hj
theorem Cs.new (w : World) (t : TypeId) (cs : Array Value) (c : Nat → Value) (hn : cs.size = n) (hc : ∀ i, i < n → cs[i]? = some (c i)) : Cs (w.alloc (.cells cs t)) w.heap.size t n c := ⟨cs, Blk.new w t cs, hn, hc⟩
end

/-- A mark's two numbers are 16 bits. -/
def U16 (m : Int × Int) : Prop := (0 ≤ m.1 ∧ m.1 ≤ 65535) ∧ 0 ≤ m.2 ∧ m.2 ≤ 65535
theorem a_u16 (n : Int) : IntKind.u16.wrap n = n % 65536 := by simp [IntKind.wrap, IntKind.bits, IntKind.signed]
theorem a_i16 (n : Int) : IntKind.i16.wrap n = (n + 32768) % 65536 - 32768 := by
  simp [IntKind.wrap, IntKind.bits, IntKind.signed]
  split <;> omega
theorem newer02_ok (a b : Int) (ha : 0 ≤ a ∧ a ≤ 65535) (hb : 0 ≤ b ∧ b ≤ 65535) (w : World) : Calls Try.prog 27 #[.int .u16 a, .int .u16 b] w fun e w' => e = .returned (.bool (nw a b)) ∧ w = w' := by
  have hd : (a + 65536 - b).tmod 65536 = (a + 65536 - b) % 65536 := Int.tmod_eq_emod_of_nonneg (by omega)
  have hn : nw a b = (decide (1 ≤ (a + 65536 - b) % 65536) && decide ((a + 65536 - b) % 65536 ≤ 32767)) := by
    unfold nw
    rw [a_u16, a_i16, ← Bool.decide_and, decide_eq_decide]
    omega
  rw [hn]
  obtain ⟨d, hdd⟩ : ∃ d, (a + 65536 - b) % 65536 = d := ⟨_, rfl⟩
  have h0 : 0 ≤ d ∧ d ≤ 65535 := by omega
  rw [hdd] at hd ⊢
  clear hn
  by_cases h1 : 1 ≤ d
  · rw [decide_eq_true h1, Bool.true_and]
    go_enter Try.func27, Try.ntmps27
    go_wp2
    go_ret
    exact ⟨rfl, rfl⟩
  · rw [decide_eq_false h1, Bool.false_and]
    go_enter Try.func27, Try.ntmps27
    go_wp2
    go_ret
    exact ⟨rfl, rfl⟩
theorem next02_ok (a : Int) (ha : 0 ≤ a ∧ a ≤ 65535) (w : World) : Calls Try.prog 23 #[.int .u16 a] w fun e w' => e = .returned (.int .u16 (IntKind.u16.wrap (a + 1))) ∧ w = w' := by
  have hd : (a + 1).tmod 65536 = (a + 1) % 65536 := Int.tmod_eq_emod_of_nonneg (by omega)
  have hn : IntKind.u16.wrap ((a + 1) % 65536) = IntKind.u16.wrap (a + 1) := by rw [a_u16, a_u16]; omega
  go_enter Try.func23, Try.ntmps23
  go_wp2
  go_ret
  exact ⟨by first | rfl | rw [hn], rfl⟩
theorem rnewer_ok (x y : Int × Int) (hx : U16 x) (hy : U16 y) (w : World) : Calls Try.prog 11 #[.int .u16 x.1, .int .u16 x.2, .int .u16 y.1, .int .u16 y.2] w fun e w' => e = .returned (.bool (nwm x y)) ∧ w = w' := by
  obtain ⟨a, b⟩ := x
  obtain ⟨c, d⟩ := y
  obtain ⟨x1, x2⟩ := hx
  obtain ⟨y1, y2⟩ := hy
  dsimp only at x1 x2 y1 y2 ⊢
  by_cases he : a = c
  · subst he
    have hn : nwm (a, b) (a, d) = nw b d := by simp [nwm, nw_self]
    rw [hn]
    have C := Lib.hid (fun w => newer02_ok b d x2 y2 w)
    clear hn
    go_enter Try.func11, Try.ntmps11
    go_wp2_with (go_at_call 27; (with_reducible refine Calls.mono (C.out _) ?_); rintro e w1 ⟨rfl, rfl⟩)
    go_ret
    exact ⟨rfl, rfl⟩
  · have hb : (a == c) = false := by simpa using he
    have hn : nwm (a, b) (c, d) = nw a c := by simp [nwm, he]
    rw [hn]
    have C := Lib.hid (fun w => newer02_ok a c x1 y1 w)
    clear hn he
    go_enter Try.func11, Try.ntmps11
    go_wp2_with (go_at_call 27; (with_reducible refine Calls.mono (C.out _) ?_); rintro e w1 ⟨rfl, rfl⟩)
    go_ret
    exact ⟨rfl, rfl⟩
theorem rgood_ok (me t g : Int) (w : World) : Calls Try.prog 18 #[.int .i64 me, .int .i64 t, .int .i64 g] w fun e w' => e = .returned (.bool (decide (0 ≤ me ∧ me ≤ 63) && gd t g)) ∧ w = w' := by
  unfold gd
  by_cases h0 : 0 ≤ me
  rotate_left
  · rw [decide_eq_false (fun h => h0 h.1), Bool.false_and]
    go_enter Try.func18, Try.ntmps18
    go_wp2
    go_ret
    exact ⟨rfl, rfl⟩
  by_cases h1 : me ≤ 63
  rotate_left
  · rw [decide_eq_false (fun h => h1 h.2), Bool.false_and]
    go_enter Try.func18, Try.ntmps18
    go_wp2
    go_ret
    exact ⟨rfl, rfl⟩
  rw [decide_eq_true (show 0 ≤ me ∧ me ≤ 63 from ⟨h0, h1⟩), Bool.true_and]
  by_cases h2 : 1 ≤ t
  rotate_left
  · rw [decide_eq_false h2]
    go_enter Try.func18, Try.ntmps18
    go_wp2
    go_ret
    exact ⟨rfl, rfl⟩
  by_cases h3 : t ≤ 1000
  rotate_left
  · rw [decide_eq_true h2, decide_eq_false h3]
    go_enter Try.func18, Try.ntmps18
    go_wp2
    go_ret
    exact ⟨rfl, rfl⟩
  by_cases h4 : 0 ≤ g
  rotate_left
  · rw [decide_eq_true h2, decide_eq_true h3, decide_eq_false h4]
    go_enter Try.func18, Try.ntmps18
    go_wp2
    go_ret
    exact ⟨rfl, rfl⟩
  by_cases h5 : g ≤ 1000
  · rw [decide_eq_true h2, decide_eq_true h3, decide_eq_true h4, decide_eq_true h5]
    go_enter Try.func18, Try.ntmps18
    go_wp2
    go_ret
    exact ⟨rfl, rfl⟩
  · rw [decide_eq_true h2, decide_eq_true h3, decide_eq_true h4, decide_eq_false h5]
    go_enter Try.func18, Try.ntmps18
    go_wp2
    go_ret
    exact ⟨rfl, rfl⟩

/-- The reference's node. -/
def hd (me t g : Int) (s : St) : List Value := [.int .i64 me, .int .i64 t, .int .i64 g, .int .u16 s.boot, .int .u16 s.seq, .int .i64 s.root, .int .i64 s.beats, .int .i64 s.quiet]
def rc (me t g : Int) (s : St) (f : Int → Option (Int × Int)) (i : Nat) : Value :=
  if i < 8 then (hd me t g s).getD i undef else if i < 72 then .bool (f ((i : Int) - 8)).isSome else if i < 136 then .int .u16 ((f ((i : Int) - 72)).getD (0, 0)).1 else .int .u16 ((f ((i : Int) - 136)).getD (0, 0)).2
def Re (w : World) (r : Nat) (me t g : Int) (s : St) (f : Int → Option (Int × Int)) : Prop := Cs w r 52 200 (rc me t g s f)
/-- The zero value's cells. -/
def Z52 : Array Value := (([.int .i64 0, .int .i64 0, .int .i64 0, .int .u16 0, .int .u16 0, .int .i64 0, .int .i64 0, .int .i64 0] : List Value) ++ (List.replicate 64 (Value.bool false) ++ List.replicate 128 (Value.int .u16 0))).toArray
theorem z52 (w : World) : (zeroValue 52).run Try.prog w = .ok (.agg Z52) w := by kernel_rfl
theorem Z52_size : Z52.size = 200 := by kernel_rfl
theorem Z52_at (i : Nat) (h8 : 8 ≤ i) (hi : i < 200) : Z52[i]? = some (if i < 72 then .bool false else .int .u16 0) := by
  obtain ⟨j, rfl⟩ : ∃ j, i = j + 8 := ⟨i - 8, by omega⟩
  unfold Z52
  rw [List.getElem?_toArray, List.getElem?_append_right (by simp)]
  simp only [List.length_cons, List.length_nil, Nat.zero_add, Nat.reduceAdd, Nat.add_sub_cancel]
  by_cases h : j < 64
  · rw [List.getElem?_append_left (by simpa using h), List.getElem?_replicate, if_pos h, if_pos (by omega)]
  · rw [List.getElem?_append_right (by simp; omega), List.getElem?_replicate, if_pos (by simp; omega), if_neg (by omega)]
set_option maxRecDepth 100000 in
theorem Re.new (me t g b : Int) (w : World) : Re (w.alloc (.cells (((((Z52.setIfInBounds 0 (.int .i64 me)).setIfInBounds 1 (.int .i64 t)).setIfInBounds 2 (.int .i64 g)).setIfInBounds 3 (.int .u16 b)).setIfInBounds 5 (.int .i64 (-1))) 52)) w.heap.size me t g (st0 b) (fun _ => none) := by
  refine Cs.new w _ _ _ (by simp [Z52_size]) fun i hi => ?_
  by_cases h8 : i < 8
  · have : i = 0 ∨ i = 1 ∨ i = 2 ∨ i = 3 ∨ i = 4 ∨ i = 5 ∨ i = 6 ∨ i = 7 := by omega
    rcases this with rfl | rfl | rfl | rfl | rfl | rfl | rfl | rfl <;> rfl
  · rw [Array.getElem?_setIfInBounds_ne (by omega), Array.getElem?_setIfInBounds_ne (by omega), Array.getElem?_setIfInBounds_ne (by omega), Array.getElem?_setIfInBounds_ne (by omega), Array.getElem?_setIfInBounds_ne (by omega), Z52_at i (by omega) hi]
    unfold rc
    rw [if_neg h8]
    split
    · rfl
    · split <;> rfl
set_option maxRecDepth 100000 in
theorem rnew_ok (me t g b : Int) (w : World) : Calls Try.prog 20 #[.int .i64 me, .int .i64 t, .int .i64 g, .int .u16 b] w fun e w' => ∃ r, e = .returned (.pointer (some ⟨r, 0, none⟩)) ∧ Re w' r me t g (st0 b) (fun _ => none) ∧ w.heap.size ≤ r ∧ Below w.heap.size w w' := by
  have hz := z52
  have hs := Z52_size
  have hR := Lib.hid (Re.new me t g b w)
  obtain ⟨Z, hZ⟩ : ∃ Z, Z52 = Z := ⟨_, rfl⟩
  rw [hZ] at hz hs hR
  have hn : (Z = #[]) = False := by
    rw [eq_iff_iff]
    constructor
    · intro h
      rw [h] at hs
      simp at hs
    · exact False.elim
  clear hZ
  go_enter Try.func20, Try.ntmps20
  go_wp2
  go_ret
  exact ⟨_, rfl, hR.out, Nat.le_refl _, (Below.refl _ _).alloc (Nat.le_refl _) _⟩
end Go.Proofs.Ythnnejflgbminaa.El
