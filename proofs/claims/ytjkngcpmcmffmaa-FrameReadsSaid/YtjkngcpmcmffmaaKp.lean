/- What a call may have turned: the blocks of a set, and new ones. -/
import Derived.Test.YtjkngcpmcmffmaaBk
import Derived.Test.YtjkngcpmcmffmaaOw
namespace Go.Proofs.Ytjkngcpmcmffmaa.Kp
open Go.RowKit Go.Proofs.Ytjkngcpmcmffmaa.Bk Go.Proofs.Ytjkngcpmcmffmaa.Rw Go.Proofs.Ytjkngcpmcmffmaa.Ow

/-- From w to w' only blocks of S, and new ones, were turned. -/
structure Kp (S : Nat → Prop) (w w' : World) : Prop where
  os : w'.os = w.os
  tape : w'.tape = w.tape
  output : w'.output = w.output
  size : w.heap.size ≤ w'.heap.size
  block : ∀ k, k < w.heap.size → ¬ S k → w'.heap[k]? = w.heap[k]?

section
variable {S S' : Nat → Prop} {w w' w1 w2 : World} {B g : Nat}
theorem Kp.refl (S : Nat → Prop) (w : World) : Kp S w w := ⟨rfl, rfl, rfl, Nat.le_refl _, fun _ _ _ => rfl⟩
theorem Kp.trans (h : Kp S w w1) (h2 : Kp S w1 w2) : Kp S w w2 :=
  ⟨h2.os.trans h.os, h2.tape.trans h.tape, h2.output.trans h.output, Nat.le_trans h.size h2.size, fun k hk hne => (h2.block k (Nat.lt_of_lt_of_le hk h.size) hne).trans (h.block k hk hne)⟩
theorem Kp.mono (h : Kp S w w1) (hs : ∀ k, k < w.heap.size → S k → S' k) : Kp S' w w1 := ⟨h.os, h.tape, h.output, h.size, fun k hk hn => h.block k hk (fun hS => hn (hs k hk hS))⟩
theorem Kp.drewN (h : Kp S w w1) (n : Nat) : Kp S w (w1.drewN n) := ⟨h.os, h.tape, h.output, h.size, h.block⟩
theorem Kp.drew (h : Kp S w w1) : Kp S w w1.drew := ⟨h.os, h.tape, h.output, h.size, h.block⟩
theorem Kp.alloc (h : Kp S w w1) (o : Obj) : Kp S w (w1.alloc o) :=
  ⟨h.os, h.tape, h.output, by have := h.size; simp; omega, fun k hk hne => by
    rw [Below.heap_alloc _ _ _ (by have := h.size; omega)]
    exact h.block k hk hne⟩
/-- A store into a block of the set, or into a new one. -/
theorem Kp.set_ (h : Kp S w w1) (p : Addr) (hp : S p.block ∨ w.heap.size ≤ p.block) (u : Value) : Kp S w (w1.setCell p u) :=
  ⟨h.os, h.tape, h.output, by have := h.size; simpa [World.setCell] using this, fun k hk hne => by
    rw [Below.heap_setCell _ _ _ _ (by rintro rfl; rcases hp with hp | hp; exact hne hp; omega)]
    exact h.block k hk hne⟩
theorem Kp.below (h : Kp S w w1) (hb : Below w1.heap.size w1 w2) : Kp S w w2 :=
  ⟨hb.os.trans h.os, hb.tape.trans h.tape, hb.output.trans h.output, Nat.le_trans h.size hb.size, fun k hk hne => (hb.block k (Nat.lt_of_lt_of_le hk h.size)).trans (h.block k hk hne)⟩
theorem Kp.of_below (hb : Below w.heap.size w w1) : Kp S w w1 := (Kp.refl S w).below hb
theorem Kp.grown {row : Option Nat} (h : Kp S w w1) (hg : w1.grownBy w2 row) (hr : ∀ q, row = some q → S q ∨ w.heap.size ≤ q) : Kp S w w2 :=
  ⟨hg.os.trans h.os, hg.tape.trans h.tape, hg.output.trans h.output, Nat.le_trans h.size hg.size, fun k hk hne => (hg.block k (Nat.lt_of_lt_of_le hk h.size) (fun e => by
    rcases hr k e.symm with h1 | h1
    · exact hne h1
    · omega)).trans (h.block k hk hne)⟩
theorem below_kp (hb : Below B w w1) (hB : B ≤ w1.heap.size) (h : Kp S w1 w2) (hS : ∀ k, S k → B ≤ k) : Below B w w2 :=
  ⟨h.os.trans hb.os, h.tape.trans hb.tape, h.output.trans hb.output, Nat.le_trans hb.size h.size, fun k hk => (h.block k (by omega) (fun hs => by have := hS k hs; omega)).trans (hb.block k hk)⟩
theorem blk_kp {t : TypeId} {cs : Array Value} (hb : Blk w g t cs) (h : Kp S w w1) (hg : ¬ S g) : Blk w1 g t cs := (h.block g hb.lt hg).trans hb
theorem ri_kp {k : IntKind} {A : Option Addr} {l : List Int} (hr : Ri k w A l) (h : Kp S w w1) (hA : ∀ ad, A = some ad → ¬ S ad.block) : Ri k w1 A l :=
  ⟨hr.1, fun hl => by
    obtain ⟨ad, rfl, hlt, hc⟩ := hr.2 hl
    exact ⟨ad, rfl, Nat.lt_of_lt_of_le hlt h.size, fun j x hx => (World.cell?_of_block (h.block _ (by rw [block_of_add]; exact hlt) (by rw [block_of_add]; exact hA ad rfl))).trans (hc j x hx)⟩⟩
theorem oi_kp {k : IntKind} {e : TypeId} {base : Nat} {v : Value} {l : List Int} (h : Oi k e w base v l) (hk : Kp S w w1) (hA : ∀ q, v.ownBlock = some q → ¬ S q) : Oi k e w1 base v l := by
  refine ⟨h.1, ?_⟩
  rcases h.2 with h2 | ⟨g, c, cur, h1, h3, h4, h5⟩
  · exact .inl h2
  · subst h1
    exact .inr ⟨g, c, cur, rfl, h3, (hk.block g (Array.getElem?_eq_some_iff.1 h4).1 (hA g rfl)).trans h4, h5⟩
end

/-- A row that was made whole is a block. -/
theorem blk_of_row {w : World} {base : Nat} {e : TypeId} {g n : Nat} {xs : List Value} (h : w.ownsRow base e 1 (.slice (some ⟨g, 0, none⟩) n n) n xs) : Blk w g e xs.toArray ∧ base ≤ g := by
  rcases h.2 with ⟨h1, _⟩ | ⟨g', c, cur, h1, h2, h3, h4, h5, h6, h7⟩
  · cases h1
  · injection h1 with h1 _ h8
    injection h1 with h1
    injection h1 with h1 _ _
    subst h1 h8
    have hx : cur = xs.toArray := by
      apply Array.ext'
      rw [← h7, List.take_of_length_le (by rw [Array.length_toList]; omega)]
    rw [hx] at h3
    exact ⟨h3, h2⟩
end Go.Proofs.Ytjkngcpmcmffmaa.Kp
namespace Go.Proofs.Ytjkngcpmcmffmaa.Kp
open Go.RowKit Go.Proofs.Ytjkngcpmcmffmaa.Bk Go.Proofs.Ytjkngcpmcmffmaa.Rw Go.Proofs.Ytjkngcpmcmffmaa.Ow
/-- make([]T, n) of one-cell values, as a block. -/
theorem wp_full_v {P : Program} {ops : Array Oper} {rest : List Oper} {o : Oper} {a : Act} {Q : Exit → Act → World → Prop} (e : TypeId) (z : Value) (w : World) (bytes : Nat) (hgd : o.guard = none) (t : TypeId) (x y : Operand) (ho : o.op = .makeSlice t x y)
    (ht : P.underlying t = some (.slice e)) (hinfo : (P.info? e).map (fun i => (i.zero, i.size, i.bytes)) = some (some z, 1, bytes)) (hz : z.cells = #[z])
    (kl kc : IntKind) (L C : Int) (n : Nat) (hx : a.eval x = .int kl L) (hy : a.eval y = .int kc C) (hL : L = (n : Int)) (hC : C = (n : Int)) (hb : bytes * n ≤ 281474976710656) (hn : n ≤ maxLen)
    (h : ∀ w', Blk w' w.heap.size e (Array.replicate n z) → w.grownBy w' none → wpList P ops Q rest (a.put o.dst (.slice (some ⟨w.heap.size, 0, none⟩) n n)) w') : wpList P ops Q (o :: rest) a w := by
  obtain ⟨i0, hi, hzz⟩ := Option.map_eq_some_iff.1 hinfo
  simp only [Prod.mk.injEq] at hzz
  obtain ⟨hz0, hz1, hz2⟩ := hzz
  refine wpList_make_full w hgd x y t ho w.heap.size e i0 z 1 ht hi hz0 hz1 kl kc L C n hx hy hL hC (by rw [hz2]; exact hb) hn (Nat.le_refl _) fun w' h1 h2 => h w' ?_ h2
  have h3 := (blk_of_row h1).1
  have : (madeCells z.cells (n * 1)).toList.toArray = Array.replicate n z := by
    rw [Array.toArray_toList, hz]
    apply Array.ext
    · simp [madeCells]
    · intro i h1 h2
      simp [madeCells, Nat.mod_one]
  rw [← this]
  exact h3
end Go.Proofs.Ytjkngcpmcmffmaa.Kp
