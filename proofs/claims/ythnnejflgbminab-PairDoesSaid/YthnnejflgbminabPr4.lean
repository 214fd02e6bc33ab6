/- The walk of reply; the states of a node that asks again and again. -/
import Derived.Test.YthnnejflgbminabPr3
namespace Go.Proofs.Ythnnejflgbminab.Pr
open Go.RowKit Go.Proofs.Ythnnejflgbminab.Bk Go.Proofs.Ythnnejflgbminab.Rw Go.Proofs.Ythnnejflgbminab.Ow Go.Proofs.Ythnnejflgbminab.Kp Go.Proofs.Ythnnejflgbminab.Sq Go.Proofs.Ythnnejflgbminab.Ck Go.Proofs.Ythnnejflgbminab.Tm Go.Proofs.Ythnnejflgbminab.Frm Go.Proofs.Ythnnejflgbminab.Sq2

theorem ret_reply (Q : Ending → World → Prop) (a : Act) (W : World) (g : Nat) (t : TypeId) (x0 x1 x2 x3 x4 x5 x6 x7 : Int) (h2 : a.tmps.getD 2 undef = .pointer (some ⟨g, 0, none⟩)) (hd : a.defers = [])
    (hb : Blk W g t #[.int .i64 x0, .int .i64 x1, .int .i64 x2, .int .i64 x3, .int .i64 x4, .int .i64 x5, .int .u16 x6, .int .i64 x7]) (hq : Q (.returned (.agg #[.int .i64 x0, .int .i64 x1, .int .i64 x2, .int .i64 x3, .int .i64 x4, .int .i64 x5, .int .u16 x6, .int .i64 x7])) W) : bodyPost Try.prog Try.f18 Q .ret a W := by
  have q0 : W.cell? ⟨g, 0, none⟩ = some (.int .i64 x0) := hb.cell 0
  have q1 : W.cell? ⟨g, 1, none⟩ = some (.int .i64 x1) := hb.cell 1
  have q2 : W.cell? ⟨g, 2, none⟩ = some (.int .i64 x2) := hb.cell 2
  have q3 : W.cell? ⟨g, 3, none⟩ = some (.int .i64 x3) := hb.cell 3
  have q4 : W.cell? ⟨g, 4, none⟩ = some (.int .i64 x4) := hb.cell 4
  have q5 : W.cell? ⟨g, 5, none⟩ = some (.int .i64 x5) := hb.cell 5
  have q6 : W.cell? ⟨g, 6, none⟩ = some (.int .u16 x6) := hb.cell 6
  have q7 : W.cell? ⟨g, 7, none⟩ = some (.int .i64 x7) := hb.cell 7
  obtain ⟨tmps, defers⟩ := a
  simp only at h2 hd
  subst hd
  rw [Array.getD_eq_getD_getElem?] at h2
  refine bodyPost_ret (v := .agg #[.int .i64 x0, .int .i64 x1, .int .i64 x2, .int .i64 x3, .int .i64 x4, .int .i64 x5, .int .u16 x6, .int .i64 x7]) ?_ rfl hq
  simp [results, Try.results18, go_sem, h2, q0, q1, q2, q3, q4, q5, q6, q7]
set_option maxRecDepth 100000 in
theorem reply_ok (x0 x1 x2 x3 x4 x5 x6 x7 x8 x9 x10 x11 x12 x13 : Int) (w : World) :
    Calls Try.prog 18 #[.agg #[.int .i64 x0, .int .i64 x1, .int .i64 x2, .int .i64 x3, .int .u16 x4, .int .u16 x5, .int .i64 x6, .int .i64 x7, .int .i64 x8, .int .i64 x9, .int .i64 x10, .int .i64 x11, .int .i64 x12, .int .i64 x13]] w fun e w' =>
      e = .returned (.agg #[.int .i64 x1, .int .i64 x2, .int .i64 x9, .int .i64 x10, .int .i64 x11, .int .i64 x3, .int .u16 x4, .int .i64 x6]) ∧ Below w.heap.size w w' := by
  go_enter Try.func18, Try.ntmps18
  go_wp2
  exact ret_reply _ _ _ (w.heap.size + 1) 47 x1 x2 x9 x10 x11 x3 x4 x6 rfl rfl (new_at (by simp)) ⟨rfl, ((Below.refl _ _).alloc (Nat.le_refl _) _).alloc (by simp) _⟩

/-- The state after k rounds of asking in vain. -/
def gu (t l : Int) : Nat → St
  | 0 => st0
  | 1 => ⟨t, l, true, 1, 0, 0⟩
  | 2 => ⟨t, l, false, 2, 1, 1⟩
  | 3 => ⟨t, l, false, 2, 1, 0⟩
  | 4 => ⟨t, l + 3, true, 1, 1, 0⟩
  | 5 => ⟨t, l + 3, false, 2, 2, 3⟩
  | 6 => ⟨t, l + 3, false, 2, 2, 2⟩
  | 7 => ⟨t, l + 3, false, 2, 2, 1⟩
  | 8 => ⟨t, l + 3, false, 2, 2, 0⟩
  | 9 => ⟨t, l + 8, true, 1, 2, 0⟩
  | _ => ⟨t, l + 8, false, 2, 0, 0⟩
/-- In a round in which it asks, and in one in which it doesn't: what Beat makes of the state. -/
theorem gu_yes (me t l : Int) (k : Nat) (hk : k < 10) (h : k = 0 ∨ k = 3 ∨ k = 8) (hm : (t == me) = false) (hp : ∀ j : Int, 0 ≤ j → j ≤ 9 → okPulse me t (l + j) = true) :
    askOk me (gu t l k) t (l + k) = true ∧ beat (asked (gu t l k) t (l + k)) = (false, gu t l (k + 1)) ∧ StOk (asked (gu t l k) t (l + k)) ∧ ((asked (gu t l k) t (l + k)).to = t ∧ l ≤ (asked (gu t l k) t (l + k)).sent) := by
  have hp' := hp k (by omega) (by omega)
  rcases h with rfl | rfl | rfl
  all_goals
    refine ⟨?_, ?_, ?_, ?_⟩
    · simp only [askOk, hp', hm]; simp [gu, st0]
    · simp [beat, asked, gu, st0]
    · exact ⟨fun _ => .inl rfl, by simp [asked, gu, st0], by simp [asked, gu, st0]⟩
    · simp [asked]
      try omega
theorem gu_no (me t l : Int) (k : Nat) (hk : k < 10) (h : ¬ (k = 0 ∨ k = 3 ∨ k = 8)) :
    askOk me (gu t l k) t (l + k) = false ∧ beat (gu t l k) = (decide (k = 9), gu t l (k + 1)) ∧ StOk (gu t l k) ∧ ((gu t l k).to = t ∧ l ≤ (gu t l k).sent) := by
  rcases (by omega : k = 1 ∨ k = 2 ∨ k = 4 ∨ k = 5 ∨ k = 6 ∨ k = 7 ∨ k = 9) with rfl | rfl | rfl | rfl | rfl | rfl | rfl
  all_goals
    refine ⟨by simp [askOk, gu], by simp [beat, gu]; try omega, ⟨by simp [gu], by simp [gu], by simp [gu]⟩, by simp [gu], ?_⟩
    simp only [gu]
    omega
end Go.Proofs.Ythnnejflgbminab.Pr
