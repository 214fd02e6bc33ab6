/- The walk of Clear, of rings of numbers. -/
import Derived.Test.YtjmakjfnhffehaaRAlive
import Derived.Lib.SliceRun
namespace Go.Proofs.Ytjmakjfnhffehaa.Ring
open Go.RowKit Go.Proofs.Ytjmakjfnhffehaa.Bk Go.Proofs.Ytjmakjfnhffehaa.Rw Go.Proofs.Ytjmakjfnhffehaa.Ow Go.Proofs.Ytjmakjfnhffehaa.Kp

theorem blk_setCells {g : Nat} {t : TypeId} : ∀ (vs : List Value) (o : Nat) (w : World) (cs : Array Value), Blk w g t cs → ∃ cs', cs'.size = cs.size ∧ Blk (w.setCells g o vs) g t cs' ∧ Kp (· = g) w (w.setCells g o vs)
  | [], _, w, cs, h => ⟨cs, rfl, h, Kp.refl _ _⟩
  | v :: vs, o, w, cs, h => by
    obtain ⟨cs', h1, h2, h3⟩ := blk_setCells vs (o + 1) _ _ (h.set_ o v)
    exact ⟨cs', by simpa using h1, h2, ((Kp.refl (· = g) w).set_ ⟨g, o, none⟩ (.inl rfl) v).trans h3⟩
/-- clear(v) of a block that is whole. -/
theorem wp_clear {P : Program} {ops : Array Oper} {rest : List Oper} {o : Oper} {a : Act} {Q : Exit → Act → World → Prop} (e : TypeId) (z : Value) (w : World) (hgd : o.guard = none) (s : Operand) (t : TypeId)
    (ho : o.op = .call { callee := .builtin .clear, args := #[s], argTypes := #[t] }) (hd : o.dst = none)
    (ht : P.underlying t = some (.slice e)) (hv : ∀ w, (zeroValue e).run P w = .ok z w) (hz : z.cells = #[z]) (h1 : z.oneCell' = true) (g n : Nat) (cs : Array Value) (hs : a.eval s = .slice (some ⟨g, 0, none⟩) n n) (hn : 0 < n) (hcs : cs.size = n) (hb : Blk w g e cs)
    (h : ∀ w' cs', cs'.size = n → Blk w' g e cs' → Kp (· = g) w w' → wpList P ops Q rest a w') : wpList P ops Q (o :: rest) a w := by
  obtain ⟨cs', h2, h3, h4⟩ := blk_setCells (List.replicate n z) 0 w cs hb
  have hrun := Lib.run_clear_slice (P := P) w t e o.type z ht hv hz h1 g 0 n n hn (fun j hj => by
    have := hb.cell (0 + j)
    rw [this, Array.getElem?_eq_getElem (by omega)]
    rfl) (fun j hj => hb.frozen _)
  refine wpList_plain hgd fun K hK => ?_
  unfold Oper.wp execOp
  simp only [ho, resolve, invoke, builtin, Sem.run_bind, Sem.run_pure, Result.andThen_ok, List.map_toArray, List.map_cons, List.map_nil, hs, hrun]
  have := hK _ _ (h _ _ (h2.trans hcs) h3 h4)
  show K (a.put o.dst (.tuple #[])) _
  rw [hd]
  exact this

theorem zero3 (w : World) : (zeroValue 3).run Try.prog w = .ok (.int .i64 0) w := rfl
theorem clear_ok (p g room : Nat) (q : List Value) (w : World) (h : Rg 43 3 w p g room q) (h0 : 1 ≤ room) :
    Calls Try.prog 6 #[.pointer (some ⟨p, 0, none⟩)] w fun e w' => e = .returned (.tuple #[]) ∧ Rg 43 3 w' p g room [] ∧ Kp (fun k => k = p ∨ k = g) w w' := by
  obtain ⟨f, cs, hcs, hb, hg, hne, hf, hle, hcell⟩ := h
  have c0 : w.cell? ⟨p, 0, none⟩ = some (.slice (some ⟨g, 0, none⟩) room room) := hb.cell 0
  have HB := Lib.hid hb
  have HG := Lib.hid hg
  have HCS := Lib.hid hcs
  clear hb hg hcs hcell
  go_enter Try.func6, Try.ntmps6
  go_wp2_with (with_reducible refine wp_clear 3 (.int .i64 0) _ rfl _ 34 rfl rfl Try.underlying34 zero3 rfl rfl g room cs rfl (by omega) HCS.out HG.out ?_)
  intro w2 cs2 hcs2 hg2 hk
  have hb2 := blk_kp HB.out hk hne
  have c1 : w2.cell? ⟨p, 1, none⟩ = some (.int .i64 f) := hb2.cell 1
  have c2 : w2.cell? ⟨p, 2, none⟩ = some (.int .i64 q.length) := hb2.cell 2
  have f1 := hb2.frozen 1
  have f2 := hb2.frozen 2
  have HB2 := Lib.hid hb2
  have HG2 := Lib.hid hg2
  have HK := Lib.hid hk
  clear hb2 hg2 hk
  go_wp2
  go_end0
  refine ⟨rfl, ⟨0, cs2, hcs2, ?_, ?_, hne, by omega, Nat.zero_le _, fun k u h => by simp at h⟩, ?_⟩
  · exact (HB2.out.set_ 1 (.int .i64 0)).set_ 2 (.int .i64 0)
  · exact (HG2.out.far (p := ⟨p, 1, none⟩) (fun e => hne e.symm) _).far (p := ⟨p, 2, none⟩) (fun e => hne e.symm) _
  · exact ((HK.out.mono (fun k _ h => .inr h)).set_ ⟨p, 1, none⟩ (.inl (.inl rfl)) _).set_ ⟨p, 2, none⟩ (.inl (.inl rfl)) _
end Go.Proofs.Ytjmakjfnhffehaa.Ring
