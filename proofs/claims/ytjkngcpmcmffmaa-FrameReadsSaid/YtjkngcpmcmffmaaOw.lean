/- Rows of whole numbers: read as lists, nil let in; the call's own rows, and what append, make and a store do to them. -/
import Derived.Test.YtjkngcpmcmffmaaRw
namespace Go.Proofs.Ytjkngcpmcmffmaa.Ow
open Go.RowKit Go.Proofs.Ytjkngcpmcmffmaa.Rw

/-- A slice of whole numbers reads as this list. -/
def Ri (k : IntKind) (w : World) (A : Option Addr) (l : List Int) : Prop :=
  l.length ≤ maxLen ∧ (0 < l.length → ∃ ad, A = some ad ∧ ad.block < w.heap.size ∧ ∀ j x, l[j]? = some x → w.cell? (ad.add j) = some (.int k x))
/-- A slice of whole numbers that is the call's own. -/
def Oi (k : IntKind) (e : TypeId) (w : World) (base : Nat) (v : Value) (l : List Int) : Prop := w.ownsRow base e 1 v l.length (l.map (Value.int k))

section
variable {k : IntKind} {e : TypeId} {w w' : World} {A : Option Addr} {l m : List Int} {base B : Nat} {v : Value}
theorem Ri.nil : Ri k w A [] := ⟨by simp, fun h => absurd h (by simp)⟩
theorem Ri.below (h : Ri k w A l) (hb : Below w.heap.size w w') : Ri k w' A l :=
  ⟨h.1, fun hl => by
    obtain ⟨ad, rfl, hlt, hc⟩ := h.2 hl
    exact ⟨ad, rfl, Nat.lt_of_lt_of_le hlt hb.size, fun j x hx => (hb.cell (by rw [block_of_add]; exact hlt)).trans (hc j x hx)⟩⟩
theorem Ri.alloc (h : Ri k w A l) (o : Obj) : Ri k (w.alloc o) A l := h.below ((Below.refl _ _).alloc (Nat.le_refl _) _)
theorem Ri.drew (h : Ri k w A l) : Ri k w.drew A l := h
theorem Ri.drewN (h : Ri k w A l) (n : Nat) : Ri k (w.drewN n) A l := h
theorem Ri.reads (h : Ri k w A l) : Reads w w.heap.size 1 A l.length (l.map (Value.int k)) := by
  refine ⟨by simp, fun hl => ?_⟩
  obtain ⟨ad, rfl, hlt, hc⟩ := h.2 hl
  refine ⟨ad, rfl, hlt, fun j u hu => ?_⟩
  rw [List.getElem?_map] at hu
  obtain ⟨x, hx, rfl⟩ := Option.map_eq_some_iff.1 hu
  exact hc j x hx
theorem Ri.at_ (h : Ri k w A l) {j : Nat} (hj : j < l.length) : ∃ ad, A = some ad ∧ ad.block < w.heap.size ∧ w.cell? (ad.add j) = some (.int k (l.getD j 0)) := by
  obtain ⟨ad, rfl, hlt, hc⟩ := h.2 (by omega)
  refine ⟨ad, rfl, hlt, hc j _ ?_⟩
  rw [List.getD_eq_getElem?_getD, List.getElem?_eq_getElem hj]
  rfl
theorem Ri.take (h : Ri k w A l) (n : Nat) : Ri k w A (l.take n) := by
  refine ⟨by have := h.1; rw [List.length_take]; omega, fun hl => ?_⟩
  rw [List.length_take] at hl
  obtain ⟨ad, rfl, hlt, hc⟩ := h.2 (by omega)
  refine ⟨ad, rfl, hlt, fun j x hx => hc j x ?_⟩
  rw [List.getElem?_take] at hx
  split at hx
  · exact hx
  · cases hx
/-- A literal's block. -/
theorem Ri.lit (k : IntKind) (e : TypeId) (w : World) (l : List Int) (hl : l.length ≤ maxLen) (cs : Array Value) (hcs : cs = (l.map (Value.int k)).toArray) {mk : Nat × Nat} : Ri k (w.alloc (.cells cs e mk)) (some ⟨w.heap.size, 0, none⟩) l := by
  subst hcs
  refine ⟨hl, fun _ => ⟨_, rfl, by simp, fun j x hx => ?_⟩⟩
  rw [show (⟨w.heap.size, 0, none⟩ : Addr).add j = ⟨w.heap.size, j, none⟩ by unfold Addr.add; split <;> simp_all, cell_of_row _ w.heap.size j _ e mk (heap_alloc_new w _)]
  simp [hx]
theorem Oi.lit (k : IntKind) (e : TypeId) (w : World) (base : Nat) (hb : base ≤ w.heap.size) (l : List Int) (hl : l.length ≤ maxLen) (cs : Array Value) (hcs : cs = (l.map (Value.int k)).toArray) :
    Oi k e (w.alloc (.cells cs e)) base (.slice (some ⟨w.heap.size, 0, none⟩) l.length l.length) l := by
  subst hcs
  exact World.ownsRow_lit (size := 1) (e := e) w (l.map (Value.int k)).toArray l.length hb hl (by simp)
theorem Oi.nil (k : IntKind) (e : TypeId) (w : World) (base : Nat) : Oi k e w base (.slice none 0 0) [] := World.ownsRow_nil _ _ _ _
theorem Oi.form (h : Oi k e w base v l) : (v = .slice none 0 0 ∧ l = []) ∨ ∃ g c, v = .slice (some ⟨g, 0, none⟩) l.length c ∧ base ≤ g ∧ g < w.heap.size ∧ l.length ≤ c ∧ c ≤ maxLen ∧ (∀ j x, l[j]? = some x → w.cell? ⟨g, j, none⟩ = some (.int k x)) ∧ ∀ j, w.frozen? ⟨g, j, none⟩ = false := by
  rcases h.2 with ⟨rfl, hl⟩ | ⟨g, c, cur, rfl, hb, hg, hlc, hcm, hs, ht⟩
  · exact .inl ⟨rfl, List.eq_nil_of_length_eq_zero hl⟩
  · refine .inr ⟨g, c, rfl, hb, (Array.getElem?_eq_some_iff.1 hg).1, hlc, hcm, fun j x hx => ?_, fun j => World.ownsRow.frozenAt h j⟩
    have hj : j < l.length := (List.getElem?_eq_some_iff.1 hx).1
    rw [World.ownsRow.cellAt h j (by omega), List.getElem?_map, hx]
    rfl
theorem Oi.ri (h : Oi k e w base v l) : ∃ A c, v = .slice A l.length c ∧ l.length ≤ c ∧ Ri k w A l := by
  rcases h.form with ⟨rfl, rfl⟩ | ⟨g, c, rfl, _, hlt, hlc, hcm, hc, _⟩
  · exact ⟨none, 0, rfl, by simp, Ri.nil⟩
  · refine ⟨_, c, rfl, hlc, by omega, fun _ => ⟨_, rfl, hlt, fun j x hx => ?_⟩⟩
    rw [show (⟨g, 0, none⟩ : Addr).add j = ⟨g, j, none⟩ by unfold Addr.add; split <;> simp_all]
    exact hc j x hx
theorem Oi.below (h : Oi k e w base v l) (hb : Below w.heap.size w w') : Oi k e w' base v l :=
  World.ownsRow.kept (row := none) h ⟨hb.os, hb.tape, hb.output, hb.size, fun i hi _ => hb.block i hi⟩ (by cases v.ownBlock <;> simp)
theorem Oi.alloc (h : Oi k e w base v l) (o : Obj) : Oi k e (w.alloc o) base v l := World.ownsRow.alloc h o
theorem Oi.drew (h : Oi k e w base v l) : Oi k e w.drew base v l := h
theorem Oi.drewN (h : Oi k e w base v l) (n : Nat) : Oi k e (w.drewN n) base v l := h
theorem Oi.lower (h : Oi k e w base v l) (hb : B ≤ base) : Oi k e w B v l := by
  refine ⟨h.1, ?_⟩
  rcases h.2 with h2 | ⟨g, c, cur, h1, h3, h4⟩
  · exact .inl h2
  · exact .inr ⟨g, c, cur, h1, by omega, h4⟩
theorem Oi.owner (h : Oi k e w base v l) : ∀ q, v.ownBlock = some q → base ≤ q ∧ q < w.heap.size := World.ownsRow.lt h
theorem Oi.set_ {g n c : Nat} (h : Oi k e w base (.slice (some ⟨g, 0, none⟩) n c) l) (j : Nat) (x : Int) :
    Oi k e (w.setCell ⟨g, j, none⟩ (.int k x)) base (.slice (some ⟨g, 0, none⟩) n c) (l.set j x) ∧ w.grownBy (w.setCell ⟨g, j, none⟩ (.int k x)) (some g) := by
  unfold Oi at h ⊢
  have hn : l.length = n := by
    rcases h.2 with ⟨h2, _⟩ | ⟨g, c, cur, h1, _⟩
    · cases h2
    · injection h1 with _ h1
      exact h1.symm
  subst hn
  have h2 := World.ownsRow.stored h j (.int k x)
  rw [List.length_set, List.map_set]
  exact h2

theorem Below.of_owned {w1 w2 : World} (hb : Below B w w1) (hB : B ≤ w1.heap.size) (hg : w1.grownBy w2 v.ownBlock) (ho : ∀ q, v.ownBlock = some q → B ≤ q) : Below B w w2 := hb.grown hg hB (fun q hq => ho q hq)
end

section
variable {P : Program} {ops : Array Oper} {rest : List Oper} {o : Oper} {a : Act} {Q : Exit → Act → World → Prop}
/-- append(v, ys..) onto a row of the call's own. -/
theorem wp_append (k : IntKind) (e : TypeId) (w : World) (base : Nat) (z : Value) (bytes : Nat) (hgd : o.guard = none) (s x : Operand) (t : TypeId)
    (ho : o.op = .call { callee := .builtin .append, args := #[s, x], argTypes := #[t, t] })
    (ht : P.underlying t = some (.slice e)) (hinfo : (P.info? e).map (fun i => (i.zero, i.size, i.bytes)) = some (some z, 1, bytes)) (hz : z.cells.size = 1)
    (v : Value) (l : List Int) (A : Option Addr) (c : Nat) (m : List Int) (mn : Nat) (hmn : m.length = mn) (hs : a.eval s = v) (hx : a.eval x = .slice A mn c)
    (hown : Oi k e w base v l) (hr : Ri k w A m) (hlen : l.length + m.length ≤ maxLen) (hbytes : (l.length + m.length) * bytes ≤ 140737488355328) (hbase : base ≤ w.heap.size)
    (h : ∀ v' w', Oi k e w' base v' (l ++ m) → w.grownBy w' v.ownBlock → (v'.ownBlock = v.ownBlock ∨ v'.ownBlock = some w.heap.size) → wpList P ops Q rest (a.put o.dst v') w') : wpList P ops Q (o :: rest) a w := by
  subst hmn
  obtain ⟨i0, hi, hzz⟩ := Option.map_eq_some_iff.1 hinfo
  simp only [Prod.mk.injEq] at hzz
  obtain ⟨hz0, hz1, hz2⟩ := hzz
  refine wpList_append_any w hgd s x t ho base e i0 z 1 bytes ht hi hz0 hz1 hz2 hz (by decide) v l.length (l.map (Value.int k)) hs hown w.heap.size A m.length c (m.map (Value.int k)) hx hr.reads ?_ hlen hbytes hbase ?_
  · intro u hu
    obtain ⟨x, _, rfl⟩ := List.mem_map.1 hu
    rfl
  · intro v' w' h1 h2 h3
    refine h v' w' ?_ h2 h3
    unfold Oi
    rw [List.map_append, List.length_append]
    exact h1
theorem step_append {K : Act → World → Prop} {E : Prop} (k : IntKind) (e : TypeId) (w : World) (base : Nat) (z : Value) (bytes : Nat) (hgd : o.guard = none) (s x : Operand) (t : TypeId)
    (ho : o.op = .call { callee := .builtin .append, args := #[s, x], argTypes := #[t, t] })
    (ht : P.underlying t = some (.slice e)) (hinfo : (P.info? e).map (fun i => (i.zero, i.size, i.bytes)) = some (some z, 1, bytes)) (hz : z.cells.size = 1)
    (v : Value) (l : List Int) (A : Option Addr) (c : Nat) (m : List Int) (mn : Nat) (hmn : m.length = mn) (hs : a.eval s = v) (hx : a.eval x = .slice A mn c)
    (hown : Oi k e w base v l) (hr : Ri k w A m) (hlen : l.length + m.length ≤ maxLen) (hbytes : (l.length + m.length) * bytes ≤ 140737488355328) (hbase : base ≤ w.heap.size)
    (h : ∀ v' w', Oi k e w' base v' (l ++ m) → w.grownBy w' v.ownBlock → (v'.ownBlock = v.ownBlock ∨ v'.ownBlock = some w.heap.size) → K (a.put o.dst v') w') :
    if Region.wanted o (yielded ops a.tmps) = true then Oper.wp P o a w K Q else E := by
  subst hmn
  obtain ⟨i0, hi, hzz⟩ := Option.map_eq_some_iff.1 hinfo
  simp only [Prod.mk.injEq] at hzz
  obtain ⟨hz0, hz1, hz2⟩ := hzz
  refine step_append_any w hgd s x t ho base e i0 z 1 bytes ht hi hz0 hz1 hz2 hz (by decide) v l.length (l.map (Value.int k)) hs hown w.heap.size A m.length c (m.map (Value.int k)) hx hr.reads ?_ hlen hbytes hbase ?_
  · intro u hu
    obtain ⟨x, _, rfl⟩ := List.mem_map.1 hu
    rfl
  · intro v' w' h1 h2 h3
    refine h v' w' ?_ h2 h3
    unfold Oi
    rw [List.map_append, List.length_append]
    exact h1
/-- make([]T, 0, n). -/
theorem wp_make (k : IntKind) (e : TypeId) (w : World) (base : Nat) (z : Value) (bytes : Nat) (hgd : o.guard = none) (t : TypeId) (x y : Operand) (ho : o.op = .makeSlice t x y)
    (ht : P.underlying t = some (.slice e)) (hinfo : (P.info? e).map (fun i => (i.zero, i.size, i.bytes)) = some (some z, 1, bytes))
    (kl kc : IntKind) (C : Int) (n : Nat) (hx : a.eval x = .int kl 0) (hy : a.eval y = .int kc C) (hC : C = (n : Int)) (hb : bytes * n ≤ 281474976710656) (hn : n ≤ maxLen) (hbase : base ≤ w.heap.size)
    (h : ∀ w', Oi k e w' base (.slice (some ⟨w.heap.size, 0, none⟩) 0 n) [] → w.grownBy w' none → wpList P ops Q rest (a.put o.dst (.slice (some ⟨w.heap.size, 0, none⟩) 0 n)) w') : wpList P ops Q (o :: rest) a w := by
  obtain ⟨i0, hi, hzz⟩ := Option.map_eq_some_iff.1 hinfo
  simp only [Prod.mk.injEq] at hzz
  obtain ⟨hz0, hz1, hz2⟩ := hzz
  exact wpList_make_own w hgd x y t ho base e i0 z 1 ht hi hz0 hz1 kl kc C n hx hy hC (by rw [hz2]; exact hb) hn hbase h
/-- make([]T, n). -/
theorem wp_full (k : IntKind) (e : TypeId) (w : World) (base : Nat) (bytes : Nat) (hgd : o.guard = none) (t : TypeId) (x y : Operand) (ho : o.op = .makeSlice t x y)
    (ht : P.underlying t = some (.slice e)) (hinfo : (P.info? e).map (fun i => (i.zero, i.size, i.bytes)) = some (some (.int k 0), 1, bytes))
    (kl kc : IntKind) (L C : Int) (n : Nat) (hx : a.eval x = .int kl L) (hy : a.eval y = .int kc C) (hL : L = (n : Int)) (hC : C = (n : Int)) (hb : bytes * n ≤ 281474976710656) (hn : n ≤ maxLen) (hbase : base ≤ w.heap.size)
    (h : ∀ w', Oi k e w' base (.slice (some ⟨w.heap.size, 0, none⟩) n n) (List.replicate n 0) → w.grownBy w' none → wpList P ops Q rest (a.put o.dst (.slice (some ⟨w.heap.size, 0, none⟩) n n)) w') : wpList P ops Q (o :: rest) a w := by
  obtain ⟨i0, hi, hzz⟩ := Option.map_eq_some_iff.1 hinfo
  simp only [Prod.mk.injEq] at hzz
  obtain ⟨hz0, hz1, hz2⟩ := hzz
  refine wpList_make_full w hgd x y t ho base e i0 (.int k 0) 1 ht hi hz0 hz1 kl kc L C n hx hy hL hC (by rw [hz2]; exact hb) hn hbase fun w' h1 h2 => h w' ?_ h2
  unfold Oi
  rw [List.length_replicate, List.map_replicate]
  have : (madeCells (Value.int k 0).cells (n * 1)).toList = List.replicate n (Value.int k 0) := by
    simp only [madeCells, Value.cells, List.size_toArray, List.length_singleton]
    rw [List.eq_replicate_iff]
    refine ⟨by simp, fun b hb => ?_⟩
    simp [Nat.mod_one] at hb
    exact hb.2.symm
  rw [← this]
  exact h1
end
end Go.Proofs.Ytjkngcpmcmffmaa.Ow
