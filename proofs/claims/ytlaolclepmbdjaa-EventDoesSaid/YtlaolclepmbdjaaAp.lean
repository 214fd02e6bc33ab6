/- append onto a row of the call's own, one-cell elements of any kind, the old blocks untouched. -/
import Derived.Test.YtlaolclepmbdjaaKp
namespace Go.Proofs.Ytlaolclepmbdjaa.Ap
open Go.RowKit Go.Proofs.Ytlaolclepmbdjaa.Bk Go.Proofs.Ytlaolclepmbdjaa.Rw Go.Proofs.Ytlaolclepmbdjaa.Ow Go.Proofs.Ytlaolclepmbdjaa.Kp
section
variable {P : Program} {ops : Array Oper} {rest : List Oper} {o : Oper} {a : Act} {Q : Exit → Act → World → Prop}
theorem step_app {K : Act → World → Prop} {E : Prop} (e : TypeId) (w0 w : World) (z : Value) (bytes : Nat) (hgd : o.guard = none) (s x : Operand) (t : TypeId)
    (ho : o.op = .call { callee := .builtin .append, args := #[s, x], argTypes := #[t, t] })
    (ht : P.underlying t = some (.slice e)) (hinfo : (P.info? e).map (fun i => (i.zero, i.size, i.bytes)) = some (some z, 1, bytes)) (hz : z.cells.size = 1)
    (v : Value) (n : Nat) (xs : List Value) (A : Option Addr) (c m : Nat) (news : List Value) (hs : a.eval s = v) (hx : a.eval x = .slice A m c)
    (hown : w.ownsRow w0.heap.size e 1 v n xs) (hr : Reads w w.heap.size 1 A m news) (h1 : ∀ u ∈ news, u.oneCell' = true) (hlen : n + m ≤ 1000) (hby : bytes ≤ 1000) (hk : Kp (fun _ => False) w0 w)
    (h : ∀ v' w', w'.ownsRow w0.heap.size e 1 v' (n + m) (xs ++ news) → Kp (fun _ => False) w0 w' → Kp (fun k => v.ownBlock = some k) w w' → K (a.put o.dst v') w') :
    if Region.wanted o (yielded ops a.tmps) = true then Oper.wp P o a w K Q else E := by
  obtain ⟨i0, hi, hzz⟩ := Option.map_eq_some_iff.1 hinfo
  simp only [Prod.mk.injEq] at hzz
  obtain ⟨hz0, hz1, hz2⟩ := hzz
  have hb : (n + m) * bytes ≤ 1000 * 1000 := Nat.mul_le_mul hlen hby
  refine step_append_any w hgd s x t ho w0.heap.size e i0 z 1 bytes ht hi hz0 hz1 hz2 hz (by decide) v n xs hs hown w.heap.size A m c news hx hr h1 (by unfold maxLen; omega) (by omega) hk.size ?_
  intro v' w' h2 h3 _
  exact h v' w' h2 (hk.grown h3 (fun q hq => .inr (World.ownsRow.lt hown q hq).1)) ((Kp.refl _ w).grown h3 (fun q hq => .inl hq))
theorem wp_app (e : TypeId) (w0 w : World) (z : Value) (bytes : Nat) (hgd : o.guard = none) (s x : Operand) (t : TypeId)
    (ho : o.op = .call { callee := .builtin .append, args := #[s, x], argTypes := #[t, t] })
    (ht : P.underlying t = some (.slice e)) (hinfo : (P.info? e).map (fun i => (i.zero, i.size, i.bytes)) = some (some z, 1, bytes)) (hz : z.cells.size = 1)
    (v : Value) (n : Nat) (xs : List Value) (A : Option Addr) (c m : Nat) (news : List Value) (hs : a.eval s = v) (hx : a.eval x = .slice A m c)
    (hown : w.ownsRow w0.heap.size e 1 v n xs) (hr : Reads w w.heap.size 1 A m news) (h1 : ∀ u ∈ news, u.oneCell' = true) (hlen : n + m ≤ 1000) (hby : bytes ≤ 1000) (hk : Kp (fun _ => False) w0 w)
    (h : ∀ v' w', w'.ownsRow w0.heap.size e 1 v' (n + m) (xs ++ news) → Kp (fun _ => False) w0 w' → Kp (fun k => v.ownBlock = some k) w w' → wpList P ops Q rest (a.put o.dst v') w') : wpList P ops Q (o :: rest) a w := by
  obtain ⟨i0, hi, hzz⟩ := Option.map_eq_some_iff.1 hinfo
  simp only [Prod.mk.injEq] at hzz
  obtain ⟨hz0, hz1, hz2⟩ := hzz
  have hb : (n + m) * bytes ≤ 1000 * 1000 := Nat.mul_le_mul hlen hby
  refine wpList_append_any w hgd s x t ho w0.heap.size e i0 z 1 bytes ht hi hz0 hz1 hz2 hz (by decide) v n xs hs hown w.heap.size A m c news hx hr h1 (by unfold maxLen; omega) (by omega) hk.size ?_
  intro v' w' h2 h3 _
  exact h v' w' h2 (hk.grown h3 (fun q hq => .inr (World.ownsRow.lt hown q hq).1)) ((Kp.refl _ w).grown h3 (fun q hq => .inl hq))
end
/-- A literal's one cell. -/
def One (w : World) (b : Nat) (x : Value) : Prop := b < w.heap.size ∧ w.cell? ⟨b, 0, none⟩ = some x
section
variable {w w' : World} {b : Nat} {x : Value}
theorem One.new (w : World) (e : TypeId) (x : Value) : One (w.alloc (.cells #[x] e)) w.heap.size x := ⟨by simp, (Blk.new w e #[x]).cell 0⟩
theorem One.alloc (h : One w b x) (o : Obj) : One (w.alloc o) b x := ⟨by have := h.1; simp; omega, (World.cell?_alloc_lt w o _ h.1).trans h.2⟩
theorem One.kp {S : Nat → Prop} (h : One w b x) (hk : Kp S w w') (hS : ¬ S b) : One w' b x := ⟨Nat.lt_of_lt_of_le h.1 hk.size, (World.cell?_of_block (hk.block b h.1 hS)).trans h.2⟩
theorem One.reads (h : One w b x) : Reads w w.heap.size 1 (some ⟨b, 0, none⟩) 1 [x] := by
  refine ⟨rfl, fun _ => ⟨_, rfl, h.1, fun j u hu => ?_⟩⟩
  rcases j with _ | j
  · simp only [List.getElem?_cons_zero, Option.some.injEq] at hu
    subst hu
    exact h.2
  · simp at hu
theorem own_form {base n : Nat} {e : TypeId} {v : Value} {xs : List Value} (h : w.ownsRow base e 1 v n xs) : ∃ A c, v = .slice A n c := by
  rcases h.2 with ⟨h2, h3⟩ | ⟨g, c', cur, h2, _⟩
  · have h3 : n = 0 := h3
    subst h3
    exact ⟨none, 0, h2⟩
  · exact ⟨_, _, h2⟩
theorem own_empty (w w0 : World) (e : TypeId) (hb : w0.heap.size ≤ w.heap.size) : (w.alloc (.cells #[] e)).ownsRow w0.heap.size e 1 (.slice (some ⟨w.heap.size, 0, none⟩) 0 0) 0 [] :=
  World.ownsRow_lit (size := 1) (e := e) w #[] 0 hb (Nat.zero_le _) rfl
theorem own_alloc {base n : Nat} {e : TypeId} {v : Value} {xs : List Value} (h : w.ownsRow base e 1 v n xs) (o : Obj) : (w.alloc o).ownsRow base e 1 v n xs := World.ownsRow.alloc h o
end
end Go.Proofs.Ytlaolclepmbdjaa.Ap
