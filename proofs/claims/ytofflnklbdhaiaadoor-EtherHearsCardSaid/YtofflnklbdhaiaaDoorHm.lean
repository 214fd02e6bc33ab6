/- What Hops computes: rounds over the edge of what was reached. -/
import Derived.Test.YtofflnklbdhaiaaDoorBl
namespace Go.Proofs.YtofflnklbdhaiaaDoor.Hm
open Go.Proofs.YtofflnklbdhaiaaDoor.Bl
/-- The nodes of a set get the number n. -/
def paint (o : List Int) (n : Int) (l : List Nat) : List Int := l.foldl (fun o i => o.set i n) o
/-- Whom those of a set hear. -/
def reach (a : List Nat) (s : Nat) (l : List Nat) : Nat := l.foldl (fun s i => s ||| a.getD i 0) s
/-- r without e. -/
def cut (r e : Nat) : Nat := r &&& (18446744073709551615 - e)
theorem cut_bit {r e j : Nat} (hr : r < 2 ^ 64) (he : e < 2 ^ 64) : (cut r e).testBit j = (r.testBit j && !e.testBit j) := by
  unfold cut
  rw [Nat.testBit_and, show (18446744073709551615 : Nat) - e = 2 ^ 64 - (e + 1) by omega, Nat.testBit_two_pow_sub_succ he]
  by_cases hj : j < 64
  · simp [hj]
  · rw [Nat.testBit_lt_two_pow (Nat.lt_of_lt_of_le hr (Nat.pow_le_pow_right (by decide) (by omega)))]
    simp
theorem cut_lt {r e : Nat} (h0 : e ≠ 0) (h : e &&& r = e) (hr : r < 2 ^ 64) : cut r e < r := by
  have hle : cut r e ≤ r := Nat.and_le_left
  rcases Nat.lt_or_ge (cut r e) r with h1 | h1
  · exact h1
  have he : e < 2 ^ 64 := by rw [← h]; exact Nat.lt_of_le_of_lt Nat.and_le_right hr
  have heq : cut r e = r := by omega
  obtain ⟨j, hj⟩ := Nat.exists_testBit_of_ne_zero h0
  have h2 := cut_bit (j := j) hr he
  have h3 : r.testBit j = true := by
    have := congrArg (fun x => x.testBit j) h
    simp only [Nat.testBit_and, hj, Bool.true_and] at this
    exact this
  rw [heq, h3, hj] at h2
  cases h2
theorem cut_sub (r e : Nat) : cut r e ≤ r := Nat.and_le_left
/-- The rounds. -/
def rounds (a : List Nat) (o : List Int) (e r : Nat) (n : Int) : List Int :=
  if h : e ≠ 0 ∧ e &&& r = e ∧ r < 2 ^ 64 then rounds a (paint o n (bl e)) (reach a 0 (bl e) &&& cut r e) (cut r e) (n + 1) else o
termination_by r
decreasing_by exact cut_lt h.1 h.2.1 h.2.2
theorem rounds_end (a : List Nat) (o : List Int) (r : Nat) (n : Int) : rounds a o 0 r n = o := by
  rw [rounds]
  simp
theorem rounds_go {a : List Nat} {o : List Int} {e r : Nat} {n : Int} (h : e ≠ 0) (he : e &&& r = e) (hr : r < 2 ^ 64) : rounds a o e r n = rounds a (paint o n (bl e)) (reach a 0 (bl e) &&& cut r e) (cut r e) (n + 1) := by
  rw [rounds]
  rw [dif_pos ⟨h, he, hr⟩]
theorem and_and (x y : Nat) : (x &&& y) &&& y = x &&& y := by
  apply Nat.eq_of_testBit_eq
  intro j
  simp only [Nat.testBit_and]
  cases x.testBit j <;> cases y.testBit j <;> rfl
/-- Hops, of the sets a. -/
def hops (a : List Nat) (fr : Int) (s : Nat) : List Int :=
  let e := s &&& (2 ^ a.length - 1)
  if 0 ≤ fr ∧ fr < a.length ∧ e.testBit fr.toNat = true then rounds a (List.replicate a.length (-1)) (2 ^ fr.toNat) e 0 else List.replicate a.length (-1)
theorem paint_length (n : Int) : ∀ (l : List Nat) (o : List Int), (paint o n l).length = o.length
  | [], _ => rfl
  | i :: l, o => by
    show (paint (o.set i n) n l).length = o.length
    rw [paint_length n l, List.length_set]
theorem paint_snoc (o : List Int) (n : Int) (l : List Nat) (i : Nat) : paint o n (l ++ [i]) = (paint o n l).set i n := by simp [paint, List.foldl_append]
theorem reach_snoc (a : List Nat) (s : Nat) (l : List Nat) (i : Nat) : reach a s (l ++ [i]) = reach a s l ||| a.getD i 0 := by simp [reach, List.foldl_append]
theorem reach_lt {a : List Nat} (ha : ∀ x ∈ a, x < 2 ^ 64) : ∀ (l : List Nat) (s : Nat), s < 2 ^ 64 → reach a s l < 2 ^ 64
  | [], _, hs => hs
  | i :: l, s, hs => by
    show reach a (s ||| a.getD i 0) l < 2 ^ 64
    refine reach_lt ha l _ (Nat.or_lt_two_pow hs ?_)
    rw [List.getD_eq_getElem?_getD]
    rcases Nat.lt_or_ge i a.length with h | h
    · rw [List.getElem?_eq_getElem h]
      exact ha _ (List.getElem_mem h)
    · rw [List.getElem?_eq_none h]
      decide
theorem rounds_length (a : List Nat) (o : List Int) (e r : Nat) (n : Int) : (rounds a o e r n).length = o.length := by
  induction r using Nat.strongRecOn generalizing o e n with
  | _ r ih =>
    rw [rounds]
    split
    · rename_i h
      rw [ih _ (cut_lt h.1 h.2.1 h.2.2), paint_length]
    · rfl
theorem hops_length (a : List Nat) (fr : Int) (s : Nat) : (hops a fr s).length = a.length := by
  unfold hops
  dsimp only
  split
  · rw [rounds_length, List.length_replicate]
  · rw [List.length_replicate]
theorem filter_fewer {p q : Nat → Bool} (h : ∀ j, p j = true → q j = true) : ∀ (l : List Nat), (l.filter p).length ≤ (l.filter q).length ∧ ((∃ j ∈ l, q j = true ∧ p j = false) → (l.filter p).length < (l.filter q).length)
  | [] => ⟨Nat.le_refl _, fun ⟨_, h, _⟩ => nomatch h⟩
  | x :: l => by
    obtain ⟨h1, h2⟩ := filter_fewer h l
    rw [List.filter_cons, List.filter_cons]
    by_cases hp : p x = true
    · rw [if_pos hp, if_pos (h x hp)]
      refine ⟨by simpa using h1, ?_⟩
      rintro ⟨j, hj, hq, hn⟩
      rcases List.mem_cons.1 hj with rfl | hj
      · rw [hp] at hn
        cases hn
      · have := h2 ⟨j, hj, hq, hn⟩
        simpa using this
    · have hpf : p x = false := by simpa using hp
      rw [if_neg hp]
      by_cases hq : q x = true
      · rw [if_pos hq]
        refine ⟨by simp; omega, fun _ => by simp; omega⟩
      · rw [if_neg hq]
        refine ⟨h1, ?_⟩
        rintro ⟨j, hj, hq2, hn⟩
        rcases List.mem_cons.1 hj with rfl | hj
        · exact absurd hq2 hq
        · exact h2 ⟨j, hj, hq2, hn⟩
theorem bl_cut {r e : Nat} (h0 : e ≠ 0) (h : e &&& r = e) (hr : r < 2 ^ 64) : (bl (cut r e)).length < (bl r).length := by
  have he : e < 2 ^ 64 := by rw [← h]; exact Nat.lt_of_le_of_lt Nat.and_le_right hr
  refine (filter_fewer (fun j hj => ?_) _).2 ?_
  · rw [cut_bit hr he] at hj
    simp at hj
    exact hj.1
  · obtain ⟨j, hj⟩ := Nat.exists_testBit_of_ne_zero h0
    have hjr : r.testBit j = true := by
      have := congrArg (fun x => x.testBit j) h
      simp only [Nat.testBit_and, hj, Bool.true_and] at this
      exact this
    refine ⟨j, ?_, hjr, by rw [cut_bit hr he, hj]; simp⟩
    have : j < 64 := by
      rcases Nat.lt_or_ge j 64 with h | h
      · exact h
      · rw [Nat.testBit_lt_two_pow (Nat.lt_of_lt_of_le hr (Nat.pow_le_pow_right (by decide) h))] at hjr
        cases hjr
    simp [this]
theorem bit_len {e r n i : Nat} (h : e &&& r = e) (hr : r < 2 ^ n) (hi : e.testBit i = true) : i < n := by
  rcases Nat.lt_or_ge i n with h1 | h1
  · exact h1
  · have := congrArg (fun x => x.testBit i) h
    simp only [Nat.testBit_and, hi, Bool.true_and] at this
    rw [Nat.testBit_lt_two_pow (Nat.lt_of_lt_of_le hr (Nat.pow_le_pow_right (by decide) h1))] at this
    cases this
theorem two_in {e j : Nat} (h : e.testBit j = true) : 2 ^ j &&& e = 2 ^ j := by
  apply Nat.eq_of_testBit_eq
  intro i
  rw [Nat.testBit_and, Nat.testBit_two_pow]
  by_cases hi : j = i
  · subst hi
    simp [h]
  · simp [hi]
end Go.Proofs.YtofflnklbdhaiaaDoor.Hm
