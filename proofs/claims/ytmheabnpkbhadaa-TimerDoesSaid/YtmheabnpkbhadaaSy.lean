/- The row of timers and the document's, side by side. -/
import Derived.Test.YtmheabnpkbhadaaSm
namespace Go.Proofs.Ytmheabnpkbhadaa.Sy
open Go.RowKit Go.Proofs.Ytmheabnpkbhadaa.Sq Go.Proofs.Ytmheabnpkbhadaa.Sp Go.Proofs.Ytmheabnpkbhadaa.Bk Go.Proofs.Ytmheabnpkbhadaa.Kp Go.Proofs.Ytmheabnpkbhadaa.Rw Go.Proofs.Ytmheabnpkbhadaa.Ow Go.Proofs.Ytmheabnpkbhadaa.Tp Go.Proofs.Ytmheabnpkbhadaa.Tl Go.Proofs.Ytmheabnpkbhadaa.Tq Go.Proofs.Ytmheabnpkbhadaa.Is Go.Proofs.Ytmheabnpkbhadaa.Se Go.Proofs.Ytmheabnpkbhadaa.Du Go.Proofs.Ytmheabnpkbhadaa.Al Go.Proofs.Ytmheabnpkbhadaa.Lw Go.Proofs.Ytmheabnpkbhadaa.Rp Go.Proofs.Ytmheabnpkbhadaa.Rm Go.Proofs.Ytmheabnpkbhadaa.Sm
/-- Both rows. -/
structure Sy (W w : World) (A q : Nat) (L : List One) (m : Nat) (M : List Tw) (t : Int) : Prop where
  row : RB w A q L
  ref : Rf w m M t
  lA : W.heap.size ≤ A
  lq : W.heap.size ≤ q
  lm : W.heap.size ≤ m
  bel : Below W.heap.size W w
section
variable {W w w' : World} {A q m : Nat} {L : List One} {M : List Tw} {t : Int}
/-- Another kind of block isn't the row's. -/
theorem RB.apart (h : RB w A q L) {g ty : Nat} {C : Array Value} (hb : Blk w g ty C) (h1 : ty ≠ 26) (h2 : ty ≠ 51) : g ≠ A ∧ g ≠ q := by
  obtain ⟨v, hv, h⟩ := h
  have hA := Blk.ne_ hb hv h1
  refine ⟨hA, ?_⟩
  rcases h with ⟨_, _, rfl⟩ | ⟨⟨o, c, C', _, hC, _⟩, _⟩
  · exact hA
  · exact Blk.ne_ hb hC h2
theorem Rf.blk (h : Rf w m M t) : ∃ C, Blk w m 39 C := by
  obtain ⟨A, c, hb, _⟩ := h
  exact ⟨_, hb⟩
theorem rf_row (hR : RB w A q L) (h : Rf w m M t) (hk : Kp (fun k => k = A ∨ k = q) w w') : Rf w' m M t := by
  obtain ⟨A', c, hb, hA⟩ := h
  have h1 := RB.apart hR hb (by decide) (by decide)
  refine ⟨A', c, blk_kp hb hk (fun e => by rcases e with e | e; exact h1.1 e; exact h1.2 e), fun h0 => ?_⟩
  obtain ⟨g, rfl, hg, hE⟩ := hA h0
  obtain ⟨C, hC⟩ := hE.1
  have h2 := RB.apart hR hC (by decide) (by decide)
  exact ⟨g, rfl, hg, hE.kp hk (fun e => by rcases e with e | e; exact h2.1 e; exact h2.2 e)⟩
theorem row_rf (hR : RB w A q L) (h : Rf w m M t) (hk : Kp (· = m) w w') : RB w' A q L := by
  obtain ⟨C, hb⟩ := Rf.blk h
  have h1 := RB.apart hR hb (by decide) (by decide)
  exact hR.kp hk (fun e => h1.1 e.symm) (fun e => h1.2 e.symm)
theorem Sy.keeps (h : Sy W w A q L m M t) (hb : Below w.heap.size w w') : Sy W w' A q L m M t := ⟨h.row.keeps hb, h.ref.keeps hb, h.lA, h.lq, h.lm, h.bel.trans (hb.mono h.bel.size)⟩
theorem Sy.post {L' : List One} (h : Sy W w A q L m M t) (hp : PostR A q L' w w') : ∃ q', Sy W w' A q' L' m M t := by
  obtain ⟨⟨q', h1, h2⟩, h3⟩ := hp
  have hs := h.bel.size
  have hA := h.lA; have hq := h.lq
  exact ⟨q', h1, rf_row h.row h.ref h3, h.lA, by rcases h2 with h2 | h2 <;> omega, h.lm, below_k h.bel hs h3 (fun k hk => by rcases hk with rfl | rfl <;> assumption)⟩
theorem Sy.rpost {M' : List Tw} {t' : Int} (h : Sy W w A q L m M t) (hr : Rf w' m M' t') (hk : Kp (· = m) w w') : Sy W w' A q L m M' t' :=
  ⟨row_rf h.row h.ref hk, hr, h.lA, h.lq, h.lm, below_k h.bel h.bel.size hk (fun k e => by have := h.lm; omega)⟩
/-- A block of another kind is as it was. -/
theorem Sy.far (h : Sy W w A q L m M t) {S : Nat → Prop} (hk : Kp S w w') (hS : ∀ k, S k → k = A ∨ k = q ∨ k = m) {g ty : Nat} {C : Array Value} (hb : Blk w g ty C) (h1 : ty ≠ 26) (h2 : ty ≠ 51) (h3 : ty ≠ 39) : Blk w' g ty C := by
  have ha := RB.apart h.row hb h1 h2
  obtain ⟨C', hm⟩ := Rf.blk h.ref
  have hb3 := Blk.ne_ hb hm h3
  exact blk_kp hb hk (fun e => by rcases hS g e with e | e | e; exact ha.1 e; exact ha.2 e; exact hb3 e)
theorem Sy.oi (h : Sy W w A q L m M t) {S : Nat → Prop} (hk : Kp S w w') (hS : ∀ k, S k → k = A ∨ k = q ∨ k = m) {base : Nat} {v : Value} {l : List Int} (ho : Oi .i64 3 w base v l) : Oi .i64 3 w' base v l := by
  refine oi_kp ho hk (fun p hp e => ?_)
  rcases ho.2 with ⟨rfl, _⟩ | ⟨g, c, cur, rfl, _, hg, _⟩
  · cases hp
  · injection hp with hp
    subst hp
    have ha := RB.apart h.row (show Blk w g 3 cur from hg) (by decide) (by decide)
    obtain ⟨C', hm⟩ := Rf.blk h.ref
    have hb3 := Blk.ne_ (show Blk w g 3 cur from hg) hm (by decide)
    rcases hS g e with e | e | e
    · exact ha.1 e
    · exact ha.2 e
    · exact hb3 e
end
theorem E3.cells {w : World} {g : Nat} {M : List Tw} (h : E3 w g M) (j : Nat) (u : Value) (hu : (cl3 M)[j]? = some u) : w.cell? ⟨g, j, none⟩ = some u := by
  have hj := (List.getElem?_eq_some_iff.1 hu).1
  rw [cl3_length] at hj
  obtain ⟨e0, e1, e2⟩ := cl3_at M (j / 3) (by omega)
  obtain ⟨q0, q1, q2⟩ := h.2 (j / 3) (by omega)
  rcases (by omega : j = j / 3 * 3 ∨ j = j / 3 * 3 + 1 ∨ j = j / 3 * 3 + 2) with e | e | e
  · rw [← e] at e0 q0
    rw [q0, ← e0, hu]
  · rw [← e] at e1 q1
    rw [q1, ← e1, hu]
  · rw [← e] at e2 q2
    rw [q2, ← e2, hu]
theorem cl3_one (M : List Tw) : ∀ u ∈ cl3 M, u.oneCell' = true := by
  intro u hu
  obtain ⟨x, _, hx⟩ := List.mem_flatMap.1 hu
  simp at hx
  rcases hx with rfl | rfl | rfl <;> rfl
/-- append of a whole row of the document's onto an empty one. -/
theorem step_copy3 {P : Program} {ops : Array Oper} {o : Oper} {a : Act} {K : Act → World → Prop} {Q : Exit → Act → World → Prop} {E : Prop} (base : Nat) (w : World) (z : Value) (hgd : Region.wanted o (yielded ops a.tmps) = true) (s x : Operand) (t : TypeId)
    (ho : o.op = .call { callee := .builtin .append, args := #[s, x], argTypes := #[t, t] })
    (ht : P.underlying t = some (.slice 57)) (hinfo : (P.info? 57).map (fun i => (i.zero, i.size, i.bytes)) = some (some z, 3, 24)) (hz : z.cells.size = 3)
    (v : Value) (hs : a.eval s = v) (hown : Ro w base v []) (A : Option Addr) (n c : Nat) (M : List Tw) (hn : M.length = n) (hx : a.eval x = .slice A n c) (hA : 0 < M.length → ∃ g, A = some ⟨g, 0, none⟩ ∧ E3 w g M) (hlen : M.length ≤ 1000) (hbase : base ≤ w.heap.size)
    (h : ∀ v' w', Ro w' base v' M → w.grownBy w' v.ownBlock → K (a.put o.dst v') w') :
    if Region.wanted o (yielded ops a.tmps) = true then Oper.wp P o a w K Q else E := by
  subst hn
  obtain ⟨i0, hi, hzz⟩ := Option.map_eq_some_iff.1 hinfo
  simp only [Prod.mk.injEq] at hzz
  obtain ⟨hz0, hz1, hz2⟩ := hzz
  rw [if_pos hgd]
  refine wp_append_any w s x t ho base 57 i0 z 3 24 ht hi hz0 hz1 hz2 hz (by decide) v 0 [] hs hown w.heap.size A M.length c (cl3 M) hx ⟨cl3_length M, fun h0 => ?_⟩ (cl3_one M) (by unfold maxLen; omega) (by omega) hbase ?_
  · obtain ⟨g, rfl, hE⟩ := hA h0
    obtain ⟨C, hC⟩ := hE.1
    refine ⟨_, rfl, hC.lt, fun j u hu => ?_⟩
    rw [show (⟨g, 0, none⟩ : Addr).add j = ⟨g, j, none⟩ by unfold Addr.add; split <;> simp_all]
    exact E3.cells hE j u hu
  · intro v' w' h1 h2 _
    rw [Nat.zero_add, List.nil_append] at h1
    exact h v' w' h1 h2
end Go.Proofs.Ytmheabnpkbhadaa.Sy
