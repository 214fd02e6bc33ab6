/- Rows of structs that are the call's own: read element by element; what append does to them. -/
import Derived.Test.YteeeolagnndcaabOw
import Derived.Test.YteeeolagnndcaabKp
namespace Go.Proofs.Yteeeolagnndcaab.Sr
open Go.RowKit Go.Proofs.Yteeeolagnndcaab.Rw Go.Proofs.Yteeeolagnndcaab.Bk Go.Proofs.Yteeeolagnndcaab.Kp

/-- A slice of structs that is the call's own. -/
def Sr {α : Type} (f : α → List Value) (size : Nat) (e : TypeId) (w : World) (base : Nat) (v : Value) (l : List α) : Prop := w.ownsRow base e size v l.length (l.flatMap f)

theorem flat_at {α : Type} {f : α → List Value} {size : Nat} (hf : ∀ x, (f x).length = size) : ∀ (l : List α) (j : Nat) (x : α), l[j]? = some x → ∀ i u, (f x)[i]? = some u → (l.flatMap f)[j * size + i]? = some u
  | [], j, x, h => by simp at h
  | y :: l, 0, x, h => by
    intro i u hu
    simp only [List.getElem?_cons_zero, Option.some.injEq] at h
    subst h
    have hi : i < (f y).length := (List.getElem?_eq_some_iff.1 hu).1
    rw [List.flatMap_cons, Nat.zero_mul, Nat.zero_add, List.getElem?_append_left hi]
    exact hu
  | y :: l, j + 1, x, h => by
    intro i u hu
    rw [List.getElem?_cons_succ] at h
    rw [List.flatMap_cons, List.getElem?_append_right (by rw [hf, Nat.add_mul]; omega), hf, show (j + 1) * size + i - size = j * size + i by rw [Nat.add_mul]; omega]
    exact flat_at hf l j x h i u hu

section
variable {α : Type} {f : α → List Value} {size : Nat} {e : TypeId} {w w' : World} {base B : Nat} {v : Value} {l : List α}
theorem Sr.nil : Sr f size e w base (.slice none 0 0) [] := World.ownsRow_nil _ _ _ _
theorem Sr.form (hf : ∀ x, (f x).length = size) (h : Sr f size e w base v l) : (v = .slice none 0 0 ∧ l = []) ∨ ∃ g c, v = .slice (some ⟨g, 0, none⟩) l.length c ∧ base ≤ g ∧ g < w.heap.size ∧ l.length ≤ c ∧ c ≤ maxLen ∧ (∀ j x, l[j]? = some x → ∀ i u, (f x)[i]? = some u → w.cell? ⟨g, j * size + i, none⟩ = some u) ∧ ∀ j, w.frozen? ⟨g, j, none⟩ = false := by
  rcases h.2 with ⟨rfl, hl⟩ | ⟨g, c, cur, rfl, hb, hg, hlc, hcm, hs, ht⟩
  · exact .inl ⟨rfl, List.eq_nil_of_length_eq_zero hl⟩
  · refine .inr ⟨g, c, rfl, hb, (Array.getElem?_eq_some_iff.1 hg).1, hlc, hcm, fun j x hx i u hu => ?_, fun j => World.ownsRow.frozenAt h j⟩
    have h1 := flat_at hf l j x hx i u hu
    have h2 : j * size + i < (l.flatMap f).length := (List.getElem?_eq_some_iff.1 h1).1
    rw [World.ownsRow.cellAt h _ (by have := h.1; omega)]
    exact h1
theorem Sr.sl (hf : ∀ x, (f x).length = size) (h : Sr f size e w base v l) : ∃ A c, v = .slice A l.length c ∧ l.length ≤ c ∧ c ≤ maxLen ∧ (0 < l.length → ∃ g, A = some ⟨g, 0, none⟩ ∧ base ≤ g ∧ g < w.heap.size ∧ ∀ j x, l[j]? = some x → ∀ i u, (f x)[i]? = some u → w.cell? ⟨g, j * size + i, none⟩ = some u) := by
  rcases h.form hf with ⟨rfl, rfl⟩ | ⟨g, c, rfl, hb, hg, hl, hc, hx, _⟩
  · exact ⟨none, 0, rfl, Nat.le_refl _, Nat.zero_le _, fun h => absurd h (by simp)⟩
  · exact ⟨_, c, rfl, hl, hc, fun _ => ⟨g, rfl, hb, hg, hx⟩⟩
theorem Sr.below (h : Sr f size e w base v l) (hb : Below w.heap.size w w') : Sr f size e w' base v l :=
  World.ownsRow.kept (row := none) h ⟨hb.os, hb.tape, hb.output, hb.size, fun i hi _ => hb.block i hi⟩ (by cases v.ownBlock <;> simp)
theorem Sr.alloc (h : Sr f size e w base v l) (o : Obj) : Sr f size e (w.alloc o) base v l := World.ownsRow.alloc h o
theorem Sr.drewN (h : Sr f size e w base v l) (n : Nat) : Sr f size e (w.drewN n) base v l := h
theorem Sr.owner (h : Sr f size e w base v l) : ∀ q, v.ownBlock = some q → base ≤ q ∧ q < w.heap.size := World.ownsRow.lt h
theorem Sr.kp {S : Nat → Prop} (h : Sr f size e w base v l) (hk : Kp S w w') (hA : ∀ q, v.ownBlock = some q → ¬ S q) : Sr f size e w' base v l := by
  refine ⟨h.1, ?_⟩
  rcases h.2 with h2 | ⟨g, c, cur, h1, h3, h4, h5⟩
  · exact .inl h2
  · refine .inr ⟨g, c, cur, h1, h3, ?_, h5⟩
    exact blk_kp (t := e) h4 hk (hA g (by rw [h1]; rfl))
end

section
variable {α : Type} {P : Program} {ops : Array Oper} {rest : List Oper} {o : Oper} {a : Act} {Q : Exit → Act → World → Prop}
/-- append(v, x) of one struct, which lies in a block of its own, onto a row of the call's own. -/
theorem wp_push (f : α → List Value) (size : Nat) (e : TypeId) (w : World) (base : Nat) (z : Value) (bytes : Nat) (hgd : o.guard = none) (s x : Operand) (t : TypeId)
    (ho : o.op = .call { callee := .builtin .append, args := #[s, x], argTypes := #[t, t] })
    (ht : P.underlying t = some (.slice e)) (hinfo : (P.info? e).map (fun i => (i.zero, i.size, i.bytes)) = some (some z, size, bytes)) (hz : z.cells.size = size) (hsz : 0 < size)
    (v : Value) (l : List α) (b : Nat) (m : α) (t' : TypeId) (hf : (f m).length = size) (hs : a.eval s = v) (hx : a.eval x = .slice (some ⟨b, 0, none⟩) 1 1)
    (hown : Sr f size e w base v l) (hr : Blk w b t' (f m).toArray) (h1 : ∀ u ∈ f m, u.oneCell' = true) (hlen : l.length + 1 ≤ maxLen) (hbytes : (l.length + 1) * bytes ≤ 140737488355328) (hbase : base ≤ w.heap.size)
    (h : ∀ v' w', Sr f size e w' base v' (l ++ [m]) → w.grownBy w' v.ownBlock → (v'.ownBlock = v.ownBlock ∨ v'.ownBlock = some w.heap.size) → wpList P ops Q rest (a.put o.dst v') w') : wpList P ops Q (o :: rest) a w := by
  obtain ⟨i0, hi, hzz⟩ := Option.map_eq_some_iff.1 hinfo
  simp only [Prod.mk.injEq] at hzz
  obtain ⟨hz0, hz1, hz2⟩ := hzz
  refine wpList_append_any w hgd s x t ho base e i0 z size bytes ht hi hz0 hz1 hz2 hz hsz v l.length (l.flatMap f) hs hown w.heap.size (some ⟨b, 0, none⟩) 1 1 (f m) hx ⟨by rw [hf]; omega, fun _ => ⟨_, rfl, hr.lt, fun j u hu => ?_⟩⟩ h1 hlen hbytes hbase ?_
  · rw [show (⟨b, 0, none⟩ : Addr).add j = ⟨b, j, none⟩ by unfold Addr.add; split <;> simp_all, hr.cell j]
    simpa using hu
  · intro v' w' h1 h2 h3
    refine h v' w' ?_ h2 h3
    unfold Sr
    rw [List.flatMap_append, List.length_append, List.flatMap_singleton]
    exact h1
end
end Go.Proofs.Yteeeolagnndcaab.Sr
