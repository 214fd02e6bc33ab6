/- What Hops' rows say: who is reached by so many links, over a set. -/
import Derived.Test.YtofflnklbdhaiaaDoorHm
namespace Go.Proofs.YtofflnklbdhaiaaDoor.Bm
open Go.Proofs.YtofflnklbdhaiaaDoor.Bl Go.Proofs.YtofflnklbdhaiaaDoor.Hm
/-- i is reached from f by t links at most, over s. -/
def ball (a : List Nat) (s f : Nat) : Nat → Nat → Prop
  | 0, i => i = f
  | t + 1, i => ball a s f t i ∨ (s.testBit i = true ∧ ∃ j, ball a s f t j ∧ (a.getD j 0).testBit i = true)
section
variable {a : List Nat} {s f : Nat}
theorem ball_step {t i : Nat} (h : ball a s f t i) : ball a s f (t + 1) i := .inl h
theorem ball_up {t u i : Nat} (h : ball a s f t i) (hu : t ≤ u) : ball a s f u i := by
  obtain ⟨d, rfl⟩ := Nat.exists_eq_add_of_le hu
  induction d with
  | zero => exact h
  | succ d ih => exact ball_step (ih (by omega))
theorem ball_in (hf : s.testBit f = true) : ∀ {t i : Nat}, ball a s f t i → s.testBit i = true
  | 0, i, h => by rw [show i = f from h]; exact hf
  | t + 1, i, h => by
    rcases h with h | h
    · exact ball_in hf h
    · exact h.1
theorem ball_more {a' : List Nat} {s' : Nat} (ha : ∀ j i, (a.getD j 0).testBit i = true → (a'.getD j 0).testBit i = true) (hs : ∀ i, s.testBit i = true → s'.testBit i = true) : ∀ {t i : Nat}, ball a s f t i → ball a' s' f t i
  | 0, _, h => h
  | t + 1, i, h => by
    rcases h with h | ⟨h1, j, h2, h3⟩
    · exact .inl (ball_more ha hs h)
    · exact .inr ⟨hs i h1, j, ball_more ha hs h2, ha j i h3⟩
end
theorem paint_get (n : Int) : ∀ (l : List Nat) (o : List Int) (i : Nat), i < o.length → (paint o n l).getD i (-1) = if i ∈ l then n else o.getD i (-1)
  | [], _, _, _ => by simp [paint]
  | x :: l, o, i, hi => by
    show (paint (o.set x n) n l).getD i (-1) = _
    rw [paint_get n l _ i (by rwa [List.length_set])]
    by_cases h1 : i ∈ l
    · rw [if_pos h1, if_pos (List.mem_cons_of_mem _ h1)]
    · rw [if_neg h1]
      by_cases h2 : i = x
      · subst h2
        rw [if_pos List.mem_cons_self, List.getD_eq_getElem?_getD, List.getElem?_set_self hi]
        rfl
      · rw [if_neg (by simp [h1, h2]), List.getD_eq_getElem?_getD, List.getElem?_set_ne (fun h => h2 h.symm), List.getD_eq_getElem?_getD]
theorem reach_bit (a : List Nat) (i : Nat) : ∀ (l : List Nat) (s : Nat), (reach a s l).testBit i = true ↔ s.testBit i = true ∨ ∃ j ∈ l, (a.getD j 0).testBit i = true
  | [], s => by simp [reach]
  | x :: l, s => by
    show (reach a (s ||| a.getD x 0) l).testBit i = true ↔ _
    rw [reach_bit a i l, Nat.testBit_or, Bool.or_eq_true, or_assoc]
    simp
theorem bl_short {s m : Nat} (h : s < 2 ^ m) (hm : m ≤ 64) : (bl s).length ≤ m := by
  unfold bl
  rw [show (64 : Nat) = m + (64 - m) by omega, ← List.range'_append_1, List.filter_append, List.length_append]
  have h1 : (List.filter (fun i => s.testBit i) (List.range' (0 + m) (64 - m))) = [] := by
    rw [List.filter_eq_nil_iff]
    intro j hj
    rw [List.mem_range'_1] at hj
    rw [Nat.testBit_lt_two_pow (Nat.lt_of_lt_of_le h (Nat.pow_le_pow_right (by decide) (by omega)))]
    decide
  rw [h1]
  have := List.length_filter_le (fun i => s.testBit i) (List.range' 0 m)
  simpa using this
section
variable {a : List Nat} {s f : Nat}
theorem rounds_ball (hf : s.testBit f = true) : ∀ (r : Nat) (o : List Int) (e n : Nat),
    o.length = a.length → (∀ i, e.testBit i = true ↔ r.testBit i = true ∧ ball a s f n i) → (∀ i, r.testBit i = true ↔ s.testBit i = true ∧ ∀ t, t < n → ¬ ball a s f t i) →
    (∀ i, i < a.length → ∀ t : Nat, t < n → ((0 ≤ o.getD i (-1) ∧ o.getD i (-1) ≤ (t : Int)) ↔ ball a s f t i)) → (∀ i, i < a.length → -1 ≤ o.getD i (-1) ∧ o.getD i (-1) < (n : Int)) →
    n + (bl r).length ≤ a.length → r < 2 ^ 64 →
    ∀ i, i < a.length → (∀ t : Nat, (0 ≤ (rounds a o e r n).getD i (-1) ∧ (rounds a o e r n).getD i (-1) ≤ (t : Int)) ↔ ball a s f t i) ∧ -1 ≤ (rounds a o e r n).getD i (-1) ∧ (rounds a o e r n).getD i (-1) < (a.length : Int) := by
  intro r
  induction r using Nat.strongRecOn with
  | _ r ih =>
  intro o e n h1 h2 h3 h4 h5 h6 hr i hi
  by_cases he : e = 0
  · subst he
    rw [rounds_end]
    have hn : ∀ i, ball a s f n i → ∃ t, t < n ∧ ball a s f t i := fun i hb => by
      refine Classical.byContradiction fun hne => ?_
      have hri : r.testBit i = true := (h3 i).2 ⟨ball_in hf hb, fun t ht hbt => hne ⟨t, ht, hbt⟩⟩
      have := (h2 i).2 ⟨hri, hb⟩
      simp at this
    have hall : ∀ t i, ball a s f t i → ∃ u, u < n ∧ ball a s f u i := by
      intro t
      induction t with
      | zero =>
        intro i hb
        rcases Nat.lt_or_ge 0 n with h0 | h0
        · exact ⟨0, h0, hb⟩
        · exact hn i (ball_up hb (by omega))
      | succ t iht =>
        intro i hb
        rcases hb with hb | ⟨hsi, j, hb, ha⟩
        · exact iht i hb
        · obtain ⟨u, hu, hbu⟩ := iht j hb
          have hst : ball a s f (u + 1) i := .inr ⟨hsi, j, hbu, ha⟩
          rcases Nat.lt_or_ge (u + 1) n with h0 | h0
          · exact ⟨u + 1, h0, hst⟩
          · exact hn i (ball_up hst (by omega))
    obtain ⟨b1, b2⟩ := h5 i hi
    refine ⟨fun t => ?_, b1, by omega⟩
    rcases Nat.lt_or_ge t n with ht | ht
    · exact h4 i hi t ht
    · constructor
      · rintro ⟨p1, _⟩
        obtain ⟨u, hu⟩ : ∃ u : Nat, o.getD i (-1) = u := ⟨(o.getD i (-1)).toNat, by omega⟩
        exact ball_up ((h4 i hi u (by omega)).1 ⟨p1, by omega⟩) (by omega)
      · intro hb
        obtain ⟨u, hu, hbu⟩ := hall t i hb
        have := (h4 i hi u hu).2 hbu
        omega
  · have hsub : e &&& r = e := by
      apply Nat.eq_of_testBit_eq
      intro j
      rw [Nat.testBit_and]
      cases hej : e.testBit j with
      | false => rfl
      | true => rw [((h2 j).1 hej).1]; rfl
    have he64 : e < 2 ^ 64 := by rw [← hsub]; exact Nat.lt_of_le_of_lt Nat.and_le_right hr
    have hcut := bl_cut he hsub hr
    rw [rounds_go he hsub hr]
    refine ih _ (cut_lt he hsub hr) (paint o n (bl e)) (reach a 0 (bl e) &&& cut r e) (n + 1) (by rw [paint_length, h1]) ?_ ?_ ?_ ?_ (by omega) (Nat.lt_of_le_of_lt (cut_sub r e) hr) i hi
    · intro i
      rw [Nat.testBit_and, Bool.and_eq_true, reach_bit, cut_bit hr he64, Bool.and_eq_true, Bool.not_eq_true']
      constructor
      · rintro ⟨h | ⟨j, hj, hji⟩, hri, hei⟩
        · simp at h
        · exact ⟨⟨hri, hei⟩, .inr ⟨((h3 i).1 hri).1, j, ((h2 j).1 (bl_mem.1 hj).2).2, hji⟩⟩
      · rintro ⟨⟨hri, hei⟩, hb⟩
        have hnb : ¬ ball a s f n i := fun hb => by
          rw [(h2 i).2 ⟨hri, hb⟩] at hei
          cases hei
        rcases hb with hb | ⟨hsi, j, hb, hji⟩
        · exact absurd hb hnb
        · refine ⟨.inr ⟨j, ?_, hji⟩, hri, hei⟩
          have hrj : r.testBit j = true := (h3 j).2 ⟨ball_in hf hb, fun t ht hbt => hnb (ball_up (t := t + 1) (.inr ⟨hsi, j, hbt, hji⟩) (by omega))⟩
          have hej := (h2 j).2 ⟨hrj, hb⟩
          exact bl_mem.2 ⟨bit_len hsub hr hej, hej⟩
    · intro i
      rw [cut_bit hr he64, Bool.and_eq_true, Bool.not_eq_true']
      constructor
      · rintro ⟨hri, hei⟩
        refine ⟨((h3 i).1 hri).1, fun t ht hb => ?_⟩
        rcases Nat.lt_or_ge t n with h | h
        · exact ((h3 i).1 hri).2 t h hb
        · have : t = n := by omega
          subst this
          rw [(h2 i).2 ⟨hri, hb⟩] at hei
          cases hei
      · rintro ⟨hsi, hb⟩
        refine ⟨(h3 i).2 ⟨hsi, fun t ht => hb t (by omega)⟩, ?_⟩
        cases hei : e.testBit i with
        | false => rfl
        | true => exact absurd ((h2 i).1 hei).2 (hb n (by omega))
    · intro i hi t ht
      rw [paint_get _ _ _ _ (by omega)]
      by_cases hm : i ∈ bl e
      · have hei := (bl_mem.1 hm).2
        rw [if_pos hm]
        rcases Nat.lt_or_ge t n with h | h
        · constructor
          · intro h; omega
          · intro hb; exact absurd hb (((h3 i).1 ((h2 i).1 hei).1).2 t h)
        · have : t = n := by omega
          subst this
          exact ⟨fun _ => ((h2 i).1 hei).2, fun _ => by omega⟩
      · have hei : ¬ e.testBit i = true := fun h => hm (bl_mem.2 ⟨bit_len hsub hr h, h⟩)
        rw [if_neg hm]
        rcases Nat.lt_or_ge t n with h | h
        · exact h4 i hi t h
        · have : t = n := by omega
          subst this
          obtain ⟨b1, b2⟩ := h5 i hi
          constructor
          · rintro ⟨p1, _⟩
            obtain ⟨u, hu⟩ : ∃ u : Nat, o.getD i (-1) = u := ⟨(o.getD i (-1)).toNat, by omega⟩
            exact ball_up ((h4 i hi u (by omega)).1 ⟨p1, by omega⟩) (by omega)
          · intro hb
            have hri : ¬ r.testBit i = true := fun hri => hei ((h2 i).2 ⟨hri, hb⟩)
            have : ∃ u, u < t ∧ ball a s f u i := Classical.byContradiction fun hne => hri ((h3 i).2 ⟨ball_in hf hb, fun u hu hbu => hne ⟨u, hu, hbu⟩⟩)
            obtain ⟨u, hu, hbu⟩ := this
            have := (h4 i hi u hu).2 hbu
            omega
    · intro i hi
      rw [paint_get _ _ _ _ (by omega)]
      have := h5 i hi
      split <;> omega
end
/-- What Hops answers: -1, or by how few links it is reached. -/
theorem hops_ball {a : List Nat} {f s : Nat} (hl : a.length ≤ 64) (hfl : f < a.length) (hf : (s &&& (2 ^ a.length - 1)).testBit f = true) (i : Nat) (hi : i < a.length) :
    (∀ t : Nat, (0 ≤ (hops a f s).getD i (-1) ∧ (hops a f s).getD i (-1) ≤ (t : Int)) ↔ ball a (s &&& (2 ^ a.length - 1)) f t i) ∧ -1 ≤ (hops a f s).getD i (-1) ∧ (hops a f s).getD i (-1) < (a.length : Int) := by
  have h : hops a f s = rounds a (List.replicate a.length (-1)) (2 ^ f) (s &&& (2 ^ a.length - 1)) 0 := by
    unfold hops
    dsimp only
    rw [if_pos ⟨by omega, by omega, by rw [Int.toNat_natCast]; exact hf⟩, Int.toNat_natCast]
  rw [h]
  generalize hS : s &&& (2 ^ a.length - 1) = S at hf ⊢
  have hSl : S < 2 ^ a.length := by
    have := Nat.two_pow_pos a.length
    rw [← hS]
    exact Nat.lt_of_le_of_lt Nat.and_le_right (by omega)
  have hg : ∀ i, i < a.length → (List.replicate a.length (-1 : Int)).getD i (-1) = -1 := fun i hi => by simp [List.getD_eq_getElem?_getD, hi]
  have h0 : ((0 : Nat) : Int) = 0 := rfl
  rw [← h0]
  refine rounds_ball hf S _ (2 ^ f) 0 (by simp) ?_ ?_ (fun i _ t ht => absurd ht (by omega)) ?_ ?_ (Nat.lt_of_lt_of_le hSl (Nat.pow_le_pow_right (by decide) hl)) i hi
  · intro i
    rw [Nat.testBit_two_pow, decide_eq_true_eq]
    constructor
    · rintro rfl
      exact ⟨hf, rfl⟩
    · rintro ⟨_, h⟩
      exact h.symm
  · intro i
    exact ⟨fun h => ⟨h, fun t ht => absurd ht (by omega)⟩, fun h => h.1⟩
  · intro i hi
    rw [hg i hi]
    decide
  · have := bl_short hSl hl
    omega
/-- Where it starts outside, or outside the set, nobody is reached. -/
theorem hops_out {a : List Nat} {f : Int} {s : Nat} (h : ¬ (0 ≤ f ∧ f < a.length ∧ (s &&& (2 ^ a.length - 1)).testBit f.toNat = true)) : hops a f s = List.replicate a.length (-1) := by
  unfold hops
  dsimp only
  rw [if_neg h]
end Go.Proofs.YtofflnklbdhaiaaDoor.Bm
