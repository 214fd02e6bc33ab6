/- What a node that hears tells of the others. -/
import Derived.Test.YtofflnklbdhaiaaDoorAk
import Derived.Test.YtofflnklbdhaiaaDoorRf
import Derived.Test.YtofflnklbdhaiaaDoorSc
namespace Go.Proofs.YtofflnklbdhaiaaDoor.Ep
open Go.RowKit Go.Proofs.YtofflnklbdhaiaaDoor.Bl Go.Proofs.YtofflnklbdhaiaaDoor.Lk Go.Proofs.YtofflnklbdhaiaaDoor.Sc Go.Proofs.YtofflnklbdhaiaaDoor.Er Go.Proofs.YtofflnklbdhaiaaDoor.Sr
theorem frm_bit {near : Nat} (h0 : near ≠ 0) (hn : near < 2 ^ 64) (h : ¬ frm near < 0) : ∃ k : Nat, frm near = k ∧ near.testBit k = true := by
  unfold frm at h ⊢
  by_cases hone : near &&& (near - 1) = 0
  · rw [if_pos hone]
    refine ⟨_, rfl, ?_⟩
    have hb := (bl_next h0 hn).1
    have : Lib.ctz 64 near ∈ bl near := by rw [hb]; exact List.mem_cons_self
    exact (bl_mem.1 this).2
  · rw [if_neg hone] at h
    exact absurd (by decide) h
theorem earf_heard {send awake : Nat} {lost : List Int} {i near : Nat} (hn : near < 2 ^ 64) (h : (earf send awake lost i near).2 = 1) : send.testBit i = false ∧ awake.testBit i = true ∧ ∃ k : Nat, (earf send awake lost i near).1 = k ∧ near.testBit k = true := by
  unfold earf at h ⊢
  by_cases h0 : near = 0
  · rw [if_pos h0] at h
    cases h
  rw [if_neg h0] at h ⊢
  cases hs : send.testBit i with
  | true => rw [hs] at h; cases h
  | false =>
    rw [hs] at h
    cases ha : awake.testBit i with
    | false => rw [ha] at h; cases h
    | true =>
      rw [ha] at h
      rw [if_neg (by decide), if_pos rfl] at h ⊢
      by_cases hf : frm near < 0
      · rw [if_pos hf] at h
        cases h
      · rw [if_neg hf] at h ⊢
        refine ⟨rfl, rfl, ?_⟩
        obtain ⟨k, hk, hb⟩ := frm_bit h0 hn hf
        refine ⟨k, ?_, hb⟩
        split <;> exact hk
theorem frm_two {f : Nat} (hf : f < 64) : frm (2 ^ f) = f := by
  have h0 : 2 ^ f ≠ 0 := by have := Nat.two_pow_pos f; omega
  have hlt : 2 ^ f < 2 ^ 64 := Nat.pow_lt_pow_right (by decide) hf
  have hone : 2 ^ f &&& (2 ^ f - 1) = 0 := by
    apply Nat.eq_of_testBit_eq
    intro j
    rw [Nat.testBit_and, Nat.testBit_two_pow, Nat.testBit_two_pow_sub_one, Nat.zero_testBit]
    by_cases h : f = j
    · subst h; simp
    · simp [h]
  unfold frm
  rw [if_pos hone]
  have hb := (bl_next h0 hlt).1
  have hm : Lib.ctz 64 (2 ^ f) ∈ bl (2 ^ f) := by rw [hb]; exact List.mem_cons_self
  have := (bl_mem.1 hm).2
  rw [Nat.testBit_two_pow] at this
  have := of_decide_eq_true this
  omega
/-- One alone sends. -/
theorem earf_one {a : List Nat} (h : Sy a) {f i : Nat} (hf : f < 64) (awake : Nat) : (earf (2 ^ f) awake [] i (a.getD i 0 &&& 2 ^ f)).2 = if B a i f then (if awake.testBit i then 1 else 3) else 0 := by
  have e : a.getD i 0 &&& 2 ^ f = if B a i f then 2 ^ f else 0 := by
    apply Nat.eq_of_testBit_eq
    intro j
    rw [Nat.testBit_and, Nat.testBit_two_pow]
    unfold B
    by_cases hj : f = j
    · subst hj
      cases hc : (a.getD i 0).testBit f with
      | true => simp
      | false => simp
    · cases (a.getD i 0).testBit f <;> simp [hj]
  rw [e]
  cases hb : B a i f with
  | false => rfl
  | true =>
    rw [if_pos rfl, if_pos rfl]
    have hne : f ≠ i := fun hh => by
      subst hh
      rw [h.self] at hb
      cases hb
    unfold earf
    rw [if_neg (by have := Nat.two_pow_pos f; omega), frm_two hf, Nat.testBit_two_pow, decide_eq_false hne]
    rw [if_neg (by decide)]
    cases awake.testBit i with
    | false => rfl
    | true =>
      rw [if_pos rfl, if_neg (by omega), if_neg (by simp)]
      rfl
end Go.Proofs.YtofflnklbdhaiaaDoor.Ep
