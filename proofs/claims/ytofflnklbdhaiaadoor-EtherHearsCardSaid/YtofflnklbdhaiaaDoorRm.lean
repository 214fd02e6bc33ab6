/- The reference's links: a block of 4097 cells; its Set. -/
import Derived.Test.YtofflnklbdhaiaaDoorSc
import Derived.Test.YtofflnklbdhaiaaDoorCk2
namespace Go.Proofs.YtofflnklbdhaiaaDoor.Rm
open Go.RowKit Go.Proofs.YtofflnklbdhaiaaDoor.Bk Go.Proofs.YtofflnklbdhaiaaDoor.Kp Go.Proofs.YtofflnklbdhaiaaDoor.Ck Go.Proofs.YtofflnklbdhaiaaDoor.Ck2 Go.Proofs.YtofflnklbdhaiaaDoor.Lk Go.Proofs.YtofflnklbdhaiaaDoor.Sc

/-- Block b is a row of n cells of type t: cell i holds c i. -/
def Cs (w : World) (b : Nat) (t : TypeId) (n : Nat) (c : Nat → Value) : Prop := ∃ cs : Array Value, Blk w b t cs ∧ cs.size = n ∧ ∀ i, i < n → cs[i]? = some (c i)
section
variable {w w' : World} {b n : Nat} {t : TypeId} {c c' : Nat → Value}
theorem Cs.lt (h : Cs w b t n c) : b < w.heap.size := let ⟨_, h1, _, _⟩ := h; h1.lt
theorem Cs.alloc (h : Cs w b t n c) (o : Obj) : Cs (w.alloc o) b t n c := let ⟨cs, h1, h2, h3⟩ := h; ⟨cs, h1.alloc o, h2, h3⟩
theorem Cs.drew (h : Cs w b t n c) : Cs w.drew b t n c := let ⟨cs, h1, h2, h3⟩ := h; ⟨cs, h1.drew, h2, h3⟩
theorem Cs.kp {S : Nat → Prop} (h : Cs w b t n c) (hk : Kp S w w') (hb : ¬ S b) : Cs w' b t n c := let ⟨cs, h1, h2, h3⟩ := h; ⟨cs, blk_kp h1 hk hb, h2, h3⟩
theorem Cs.keeps (h : Cs w b t n c) (hb : Below w.heap.size w w') : Cs w' b t n c := let ⟨cs, h1, h2, h3⟩ := h; ⟨cs, h1.keeps hb, h2, h3⟩
theorem Cs.far {g i : Nat} {u : Value} (h : Cs w b t n c) (hb : ¬ b = g) : Cs (w.setCell ⟨g, i, none⟩ u) b t n c := let ⟨cs, h1, h2, h3⟩ := h; ⟨cs, set_far hb h1, h2, h3⟩
theorem Cs.cell (h : Cs w b t n c) {i : Nat} (hi : i < n) : w.cell? ⟨b, i, none⟩ = some (c i) := let ⟨_, h1, _, h3⟩ := h; (h1.cell i).trans (h3 i hi)
theorem Cs.frozen (h : Cs w b t n c) (i : Nat) : w.frozen? ⟨b, i, none⟩ = false := let ⟨_, h1, _, _⟩ := h; h1.frozen i
theorem Cs.congr (h : Cs w b t n c) (he : ∀ i, i < n → c i = c' i) : Cs w b t n c' := let ⟨cs, h1, h2, h3⟩ := h; ⟨cs, h1, h2, fun i hi => (he i hi) ▸ h3 i hi⟩
theorem Cs.set (h : Cs w b t n c) (i : Nat) (u : Value) : Cs (w.setCell ⟨b, i, none⟩ u) b t n (fun j => if j = i then u else c j) := by
  obtain ⟨cs, h1, h2, h3⟩ := h
  refine ⟨cs.setIfInBounds i u, h1.set_ i u, by simp [h2], fun j hj => ?_⟩
  by_cases e : j = i
  · subst e
    simp [h2, hj]
  · simp only [if_neg e]
    rw [Array.getElem?_setIfInBounds_ne (fun h => e h.symm)]
    exact h3 j hj
theorem Cs.new (w : World) (t : TypeId) (cs : Array Value) (c : Nat → Value) (hn : cs.size = n) (hc : ∀ i, i < n → cs[i]? = some (c i)) : Cs (w.alloc (.cells cs t)) w.heap.size t n c := ⟨cs, Blk.new w t cs, hn, hc⟩
end
/-- The reference's cells, of the sets a. -/
def rc (a : List Nat) (j : Nat) : Value := if j = 0 then .int .i64 a.length else .bool (B a ((j - 1) / 64) ((j - 1) % 64))
def Re (w : World) (m : Nat) (a : List Nat) : Prop := Cs w m 41 4097 (rc a)
theorem rc_at (a : List Nat) {i k : Nat} (hk : k < 64) : rc a (1 + i * 64 + k) = .bool (B a i k) := by
  unfold rc
  rw [if_neg (by omega), show (1 + i * 64 + k - 1) / 64 = i by omega, show (1 + i * 64 + k - 1) % 64 = k by omega]
def Z : Array Value := (Value.int .i64 0 :: List.replicate 4096 (Value.bool false)).toArray
theorem zZ (w : World) : (zeroValue 41).run Tryd.prog w = .ok (.agg Z) w := by kernel_rfl
theorem Z_size : Z.size = 4097 := by
  unfold Z
  rw [List.size_toArray, List.length_cons, List.length_replicate]
theorem Re.new (n : Nat) (w : World) : Re (w.alloc (.cells (Z.setIfInBounds 0 (.int .i64 n)) 41)) w.heap.size (List.replicate n 0) := by
  refine Cs.new w _ _ _ (by simp [Z_size]) fun i hi => ?_
  by_cases h0 : i = 0
  · subst h0
    rw [Array.getElem?_setIfInBounds_self_of_lt (by rw [Z_size]; omega)]
    simp [rc]
  · rw [Array.getElem?_setIfInBounds_ne (fun h => h0 h.symm)]
    obtain ⟨j, rfl⟩ : ∃ j, i = j + 1 := ⟨i - 1, by omega⟩
    unfold Z rc
    rw [if_neg (by omega), List.getElem?_toArray, List.getElem?_cons_succ, List.getElem?_replicate, if_pos (by omega)]
    have h : (List.replicate n 0).getD ((j + 1 - 1) / 64) 0 = 0 := by
      rw [List.getD_eq_getElem?_getD, List.getElem?_replicate]
      split <;> rfl
    rw [B, h]
    simp
section
variable {w w' : World} {m : Nat} {a : List Nat}
theorem Re.at_ (h : Re w m a) {i k : Nat} (hi : i < 64) (hk : k < 64) : w.cell? ⟨m, 1 + i * 64 + k, none⟩ = some (.bool (B a i k)) := by
  rw [Cs.cell h (by omega), rc_at a hk]
theorem Re.len (h : Re w m a) : w.cell? ⟨m, 0, none⟩ = some (.int .i64 a.length) := Cs.cell h (by omega)
theorem Re.link (h : Re w m a) (hs : ∀ x ∈ a, x < 2 ^ 64) {i k : Nat} (hi : i < a.length) (hk : k < a.length) (hl : a.length ≤ 64) (hik : i ≠ k) (o : Bool) :
    Re ((w.setCell ⟨m, 1 + i * 64 + k, none⟩ (.bool o)).setCell ⟨m, 1 + k * 64 + i, none⟩ (.bool o)) m (link a i k o) := by
  refine ((Cs.set h (1 + i * 64 + k) (.bool o)).set (1 + k * 64 + i) (.bool o)).congr fun j hj => ?_
  by_cases h0 : j = 0
  · subst h0
    rw [if_neg (by omega), if_neg (by omega)]
    simp [rc, link_length]
  · have e1 : rc (Lk.link a i k o) j = .bool (B (Lk.link a i k o) ((j - 1) / 64) ((j - 1) % 64)) := if_neg h0
    have e2 : rc a j = .bool (B a ((j - 1) / 64) ((j - 1) % 64)) := if_neg h0
    rw [e1, e2, link_bit hs hi hk hl hik]
    by_cases c1 : j = 1 + k * 64 + i
    · rw [if_pos c1, if_pos (by omega)]
    · rw [if_neg c1]
      by_cases c2 : j = 1 + i * 64 + k
      · rw [if_pos c2, if_pos (by omega)]
      · rw [if_neg c2, if_neg (by omega)]
end
set_option maxRecDepth 100000 in
theorem rset_ok (m : Nat) (a : List Nat) (hs : ∀ x ∈ a, x < 2 ^ 64) (hl : a.length ≤ 64) (i k : Int) (o : Bool) (w : World) (h : Re w m a) :
    Calls Tryd.prog 15 #[.pointer (some ⟨m, 0, none⟩), .int .i64 i, .int .i64 k, .bool o] w fun e w' => e = .returned (.int .i64 (if mayb a i k then 0 else 1)) ∧ Re w' m (Sc.step a i k o) ∧ Kp (fun b => b = m) w w' := by
  unfold Sc.step
  have cl := h.len
  have HR := Lib.hid h
  clear h
  by_cases i0 : i < 0
  · rw [if_neg (by simp [mayb, isn]; omega), if_neg (by simp [mayb, isn]; omega)]
    go_enter Tryd.func15, Tryd.ntmps15
    go_wp2
    go_ret
    exact ⟨rfl, HR.out, Kp.refl _ _⟩
  by_cases k0 : k < 0
  · rw [if_neg (by simp [mayb, isn]; omega), if_neg (by simp [mayb, isn]; omega)]
    go_enter Tryd.func15, Tryd.ntmps15
    go_wp2
    go_ret
    exact ⟨rfl, HR.out, Kp.refl _ _⟩
  by_cases i1 : (a.length : Int) ≤ i
  · rw [if_neg (by simp [mayb, isn]; omega), if_neg (by simp [mayb, isn]; omega)]
    go_enter Tryd.func15, Tryd.ntmps15
    go_wp2
    go_ret
    exact ⟨rfl, HR.out, Kp.refl _ _⟩
  by_cases k1 : (a.length : Int) ≤ k
  · rw [if_neg (by simp [mayb, isn]; omega), if_neg (by simp [mayb, isn]; omega)]
    go_enter Tryd.func15, Tryd.ntmps15
    go_wp2
    go_ret
    exact ⟨rfl, HR.out, Kp.refl _ _⟩
  by_cases ik : i = k
  · rw [if_neg (by simp [mayb, isn]; omega), if_neg (by simp [mayb, isn]; omega)]
    go_enter Tryd.func15, Tryd.ntmps15
    go_wp2
    go_ret
    exact ⟨rfl, HR.out, Kp.refl _ _⟩
  rw [if_pos (by simp [mayb, isn]; omega), if_pos (by simp [mayb, isn]; omega)]
  obtain ⟨x, rfl⟩ : ∃ x : Nat, i = x := ⟨i.toNat, by omega⟩
  obtain ⟨y, rfl⟩ : ∃ y : Nat, k = y := ⟨k.toNat, by omega⟩
  have hx : x < 64 := by omega
  have hy : y < 64 := by omega
  have x1 : (x : Int) < 64 := by omega
  have y1 : (y : Int) < 64 := by omega
  have x0 : ¬ ((x : Int) < 0) := by omega
  have y0 : ¬ ((y : Int) < 0) := by omega
  have qe : ((x : Int) == (y : Int)) = false := by simpa using ik
  have s1 := HR.out.at_ hx hy
  have f1 := Cs.frozen HR.out (1 + x * 64 + y)
  have hR2 := Cs.set HR.out (1 + x * 64 + y) (.bool o)
  have s2 : ∃ u, (w.setCell ⟨m, 1 + x * 64 + y, none⟩ (.bool o)).cell? ⟨m, 1 + y * 64 + x, none⟩ = some (.bool u) := by
    rw [Cs.cell hR2 (by omega)]
    split
    · exact ⟨_, rfl⟩
    · exact ⟨_, by rw [rc_at a hx]⟩
  obtain ⟨u, s2⟩ := s2
  have f2 := Cs.frozen hR2 (1 + y * 64 + x)
  have HF := Lib.hid (HR.out.link hs (i := x) (k := y) (by omega) (by omega) hl (by omega) o)
  clear hR2 i0 k0
  rw [Int.toNat_natCast, Int.toNat_natCast]
  go_enter Tryd.func15, Tryd.ntmps15
  go_wp2
  go_ret
  exact ⟨rfl, HF.out, ((Kp.refl (fun b => b = m) w).set_ ⟨m, _, none⟩ (.inl rfl) _).set_ ⟨m, _, none⟩ (.inl rfl) _⟩
end Go.Proofs.YtofflnklbdhaiaaDoor.Rm
