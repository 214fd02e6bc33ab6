/- Scripts of Set, and what stays through them: links go both ways. -/
import Derived.Test.YtofflnklbdhaiaaDoorSt
import Derived.Test.YtofflnklbdhaiaaDoorBm
namespace Go.Proofs.YtofflnklbdhaiaaDoor.Sc
open Go.RowKit Go.Proofs.YtofflnklbdhaiaaDoor.Bk Go.Proofs.YtofflnklbdhaiaaDoor.Kp Go.Proofs.YtofflnklbdhaiaaDoor.Bl Go.Proofs.YtofflnklbdhaiaaDoor.Lk Go.Proofs.YtofflnklbdhaiaaDoor.Hm Go.Proofs.YtofflnklbdhaiaaDoor.Bm

def mayb (a : List Nat) (i k : Int) : Bool := isn a i && isn a k && !(i == k)
/-- One Set. -/
def step (a : List Nat) (i k : Int) (o : Bool) : List Nat := if mayb a i k then link a i.toNat k.toNat o else a
/-- A script's row. -/
def cmd (a : List Nat) : List Value → List Nat
  | [.int _ i, .int _ k, .bool o] => step a i k o
  | _ => a
def run (a : List Nat) (z : List (List Value)) : List Nat := z.foldl cmd a
theorem run_snoc {a : List Nat} {z : List (List Value)} {k : Nat} {v : List Value} (h : z[k]? = some v) : run a (z.take (k + 1)) = cmd (run a (z.take k)) v := by
  unfold run
  rw [List.take_add_one, h, List.foldl_append]
  rfl
theorem link_length (a : List Nat) (i k : Nat) (o : Bool) : (link a i k o).length = a.length := by
  unfold link
  dsimp only
  split <;> simp
theorem step_length (a : List Nat) (i k : Int) (o : Bool) : (step a i k o).length = a.length := by
  unfold step
  split
  · exact link_length _ _ _ _
  · rfl
theorem cmd_length (a : List Nat) (v : List Value) : (cmd a v).length = a.length := by
  unfold cmd
  split
  · exact step_length _ _ _ _
  · rfl
theorem run_length (z : List (List Value)) : ∀ (a : List Nat), (run a z).length = a.length := by
  induction z with
  | nil => exact fun _ => rfl
  | cons v z ih => exact fun a => (ih (cmd a v)).trans (cmd_length a v)
/-- The bit of k in the set of i. -/
abbrev B (a : List Nat) (i k : Nat) : Bool := (a.getD i 0).testBit k
/-- What a link, or none, does to the bits. -/
theorem link_bit {a : List Nat} (hs : ∀ x ∈ a, x < 2 ^ 64) {i k : Nat} (hi : i < a.length) (hk : k < a.length) (hl : a.length ≤ 64) (hik : i ≠ k) (o : Bool) (x y : Nat) :
    B (link a i k o) x y = if (x = i ∧ y = k) ∨ (x = k ∧ y = i) then o else B a x y := by
  have hsi : a.getD i 0 < 2 ^ 64 := by
    rw [List.getD_eq_getElem?_getD, List.getElem?_eq_getElem hi]
    exact hs _ (List.getElem_mem hi)
  have hsk : a.getD k 0 < 2 ^ 64 := by
    rw [List.getD_eq_getElem?_getD, List.getElem?_eq_getElem hk]
    exact hs _ (List.getElem_mem hk)
  have gset : ∀ (b : List Nat) (j v z : Nat), j < b.length → (b.set j v).getD z 0 = if z = j then v else b.getD z 0 := by
    intro b j v z hj
    by_cases h : z = j
    · subst h
      rw [if_pos rfl, List.getD_eq_getElem?_getD, List.getElem?_set_self hj]
      rfl
    · rw [if_neg h, List.getD_eq_getElem?_getD, List.getElem?_set_ne (fun e => h e.symm), List.getD_eq_getElem?_getD]
  have hki : k ≠ i := fun h => hik h.symm
  unfold B link
  cases o with
  | false =>
    dsimp only
    rw [if_neg (by decide)]
    rw [gset _ _ _ _ (by simpa using hk), gset _ _ _ _ hi, gset _ _ _ _ hi]
    by_cases hxk : x = k
    · subst hxk
      rw [if_pos rfl, if_neg hki, off_bit hsk (by omega)]
      by_cases hy : y = i
      · subst hy; simp
      · have hy2 : ¬ i = y := fun h => hy h.symm
        simp [hy, hy2, hki]
    · rw [if_neg hxk]
      by_cases hxi : x = i
      · subst hxi
        rw [if_pos rfl, off_bit hsi (by omega)]
        by_cases hy : y = k
        · subst hy; simp
        · have hy2 : ¬ k = y := fun h => hy h.symm
          simp [hy, hy2, hxk]
      · simp [hxi, hxk]
  | true =>
    dsimp only
    rw [if_pos rfl]
    have gs2 : ∀ (b : List Nat) (j v z : Nat), (b.set j v).getD z 0 = if z = j ∧ j < b.length then v else b.getD z 0 := by
      intro b j v z
      by_cases hj : j < b.length
      · rw [gset b j v z hj]
        simp [hj]
      · rw [if_neg (by omega), List.set_eq_of_length_le (by omega)]
    simp only [gs2, List.length_set, hi, hk, and_true, if_neg hki, if_neg hik, if_true]
    by_cases hxk : x = k
    · subst hxk
      rw [if_pos rfl, on_bit, off_bit hsk (by omega)]
      by_cases hy : y = i
      · subst hy; simp
      · have hy2 : ¬ i = y := fun h => hy h.symm
        simp [hy, hy2, hki]
    · rw [if_neg hxk]
      by_cases hxi : x = i
      · subst hxi
        rw [if_pos rfl, on_bit, off_bit hsi (by omega)]
        by_cases hy : y = k
        · subst hy; simp
        · have hy2 : ¬ k = y := fun h => hy h.symm
          simp [hy, hy2, hxk]
      · simp [hxi, hxk]
/-- Links go both ways, and none goes to itself. -/
structure Sy (a : List Nat) : Prop where
  small : ∀ x ∈ a, x < 2 ^ 64
  both : ∀ i k, B a i k = B a k i
  self : ∀ i, B a i i = false
theorem link_small {a : List Nat} (hs : ∀ x ∈ a, x < 2 ^ 64) {i k : Nat} (hi : i < 64) (hk : k < 64) (o : Bool) : ∀ x ∈ link a i k o, x < 2 ^ 64 := by
  have get : ∀ (b : List Nat), (∀ x ∈ b, x < 2 ^ 64) → ∀ j, b.getD j 0 < 2 ^ 64 := fun b hb j => by
    rw [List.getD_eq_getElem?_getD]
    rcases Nat.lt_or_ge j b.length with h | h
    · rw [List.getElem?_eq_getElem h]; exact hb _ (List.getElem_mem h)
    · rw [List.getElem?_eq_none h]; decide
  have put : ∀ (b : List Nat), (∀ x ∈ b, x < 2 ^ 64) → ∀ j v, v < 2 ^ 64 → ∀ x ∈ b.set j v, x < 2 ^ 64 := fun b hb j v hv x hx => by
    rcases List.mem_or_eq_of_mem_set hx with hx | rfl
    · exact hb _ hx
    · exact hv
  unfold link
  have h1 := put a hs i _ (off_lt (k := k) (get a hs i))
  have h2 := put _ h1 k _ (off_lt (k := i) (get _ h1 k))
  dsimp only
  split
  · have h3 := put _ h2 i _ (on_lt (get _ h2 i) hk)
    exact put _ h3 k _ (on_lt (get _ h3 k) hi)
  · exact h2
theorem Sy.step {a : List Nat} (h : Sy a) (hl : a.length ≤ 64) (i k : Int) (o : Bool) : Sy (step a i k o) := by
  unfold Sc.step
  split
  · rename_i hm
    simp only [mayb, isn, Bool.and_eq_true, decide_eq_true_eq, Bool.not_eq_true', beq_eq_false_iff_ne] at hm
    have hi : i.toNat < a.length := by omega
    have hk : k.toNat < a.length := by omega
    have hik : i.toNat ≠ k.toNat := by omega
    refine ⟨link_small h.small (by omega) (by omega) o, fun x y => ?_, fun x => ?_⟩
    · rw [link_bit h.small hi hk hl hik, link_bit h.small hi hk hl hik, h.both x y]
      by_cases c : (x = i.toNat ∧ y = k.toNat) ∨ (x = k.toNat ∧ y = i.toNat)
      · rw [if_pos c, if_pos (by omega)]
      · rw [if_neg c, if_neg (by omega)]
    · rw [link_bit h.small hi hk hl hik, if_neg (by omega), h.self]
  · exact h
theorem Sy.cmd {a : List Nat} (h : Sy a) (hl : a.length ≤ 64) (v : List Value) : Sy (cmd a v) := by
  unfold Sc.cmd
  split
  · exact h.step hl _ _ _
  · exact h
theorem Sy.run : ∀ (z : List (List Value)) {a : List Nat}, Sy a → a.length ≤ 64 → Sy (run a z)
  | [], _, h, _ => h
  | v :: z, a, h, hl => Sy.run z (a := Sc.cmd a v) (h.cmd hl v) (by rw [cmd_length]; exact hl)
theorem Sy.none (n : Nat) : Sy (List.replicate n 0) := by
  have h : ∀ i, (List.replicate n 0).getD i 0 = 0 := fun i => by
    rw [List.getD_eq_getElem?_getD, List.getElem?_replicate]
    split <;> rfl
  exact ⟨fun x hx => by rw [List.eq_of_mem_replicate hx]; decide, fun i k => by show ((List.replicate n 0).getD i 0).testBit k = ((List.replicate n 0).getD k 0).testBit i; rw [h i, h k]; simp, fun i => by show ((List.replicate n 0).getD i 0).testBit i = false; rw [h i]; simp⟩
theorem Sy.lt {a : List Nat} (h : Sy a) {i k : Nat} (hb : B a i k = true) : i < a.length ∧ k < a.length := by
  have key : ∀ {i k : Nat}, B a i k = true → i < a.length := fun {i k} hb => by
    rcases Nat.lt_or_ge i a.length with h | h
    · exact h
    · rw [B, List.getD_eq_getElem?_getD, List.getElem?_eq_none h] at hb
      simp at hb
  exact ⟨key hb, key (by rw [h.both]; exact hb)⟩
/-- Set, of whatever two. -/
theorem set_any (p g : Nat) (a : List Nat) (i k : Int) (o : Bool) (w : World) (h : Ln w p g a) :
    Calls Tryd.prog 14 #[.pointer (some ⟨p, 0, none⟩), .int .i64 i, .int .i64 k, .bool o] w fun e w' => e = .returned (.int .i64 (if mayb a i k then 0 else 1)) ∧ Ln w' p g (step a i k o) ∧ Kp (fun b => b = g) w w' := by
  unfold step
  by_cases hm : mayb a i k = true
  · rw [if_pos hm, if_pos hm]
    simp only [mayb, isn, Bool.and_eq_true, decide_eq_true_eq, Bool.not_eq_true', beq_eq_false_iff_ne] at hm
    obtain ⟨x, rfl⟩ : ∃ x : Nat, i = x := ⟨i.toNat, by omega⟩
    obtain ⟨y, rfl⟩ : ∃ y : Nat, k = y := ⟨k.toNat, by omega⟩
    exact set_yes p g a x y o (by omega) (by omega) (by omega) w h
  · rw [if_neg hm, if_neg hm]
    refine (set_no p g a i k o (show mayb a i k = false from by cases hc : mayb a i k with | false => rfl | true => exact absurd hc hm) w h).mono ?_
    rintro e w' ⟨rfl, rfl⟩
    exact ⟨rfl, h, Kp.refl _ _⟩
theorem has_nat (p g : Nat) (a : List Nat) (x y : Nat) (hx : x < a.length) (hy : y < a.length) (w : World) (h : Ln w p g a) :
    Calls Tryd.prog 12 #[.pointer (some ⟨p, 0, none⟩), .int .i64 x, .int .i64 y] w fun e w' => e = .returned (.bool (B a x y)) ∧ w = w' := by
  have hc := has_any (some ⟨p, 0, none⟩) a x y w (.inr ⟨p, g, rfl, h⟩) h.hi
  have e : (isn a y && (set_ a x).testBit (y : Int).toNat) = B a x y := by
    have ix : isn a x = true := by simp [isn]; omega
    have iy : isn a y = true := by simp [isn]; omega
    rw [iy, Int.toNat_natCast, Bool.true_and]
    unfold set_
    rw [if_pos ix, Int.toNat_natCast]
  rw [e] at hc
  exact hc
/-- All nodes. -/
theorem all_bits {n : Nat} (hn : n ≤ 64) : 18446744073709551615 &&& (2 ^ n - 1) = 2 ^ n - 1 := by
  rw [show (18446744073709551615 : Nat) = 2 ^ 64 - 1 by decide, Nat.and_comm, Nat.and_two_pow_sub_one_eq_mod]
  refine Nat.mod_eq_of_lt ?_
  have := Nat.two_pow_pos n
  have : 2 ^ n ≤ 2 ^ 64 := Nat.pow_le_pow_right (by decide) hn
  omega
theorem all_bit {n i : Nat} : (2 ^ n - 1).testBit i = true ↔ i < n := by rw [Nat.testBit_two_pow_sub_one]; simp
/-- Neighbours are reached by numbers of links that differ by 1 at most. -/
theorem near_law {a : List Nat} (h : Sy a) (hl : a.length ≤ 64) (f : Int) {i k : Nat} (hb : B a i k = true) :
    ((hops a f 18446744073709551615).getD i (-1) < 0 ↔ (hops a f 18446744073709551615).getD k (-1) < 0) ∧ (hops a f 18446744073709551615).getD i (-1) ≤ (hops a f 18446744073709551615).getD k (-1) + 1 ∧ (hops a f 18446744073709551615).getD k (-1) ≤ (hops a f 18446744073709551615).getD i (-1) + 1 := by
  by_cases hf : 0 ≤ f ∧ f < a.length
  · obtain ⟨j, rfl⟩ : ∃ j : Nat, f = j := ⟨f.toNat, by omega⟩
    have hjl : j < a.length := by omega
    have hfb : (18446744073709551615 &&& (2 ^ a.length - 1)).testBit j = true := by rw [all_bits hl]; exact all_bit.2 hjl
    have key : ∀ {i k : Nat}, B a i k = true → 0 ≤ (hops a j 18446744073709551615).getD i (-1) → 0 ≤ (hops a j 18446744073709551615).getD k (-1) ∧ (hops a j 18446744073709551615).getD k (-1) ≤ (hops a j 18446744073709551615).getD i (-1) + 1 := by
      intro i k hb h0
      obtain ⟨hi, hk⟩ := h.lt hb
      obtain ⟨b1, _, b3⟩ := hops_ball hl hjl hfb i hi
      obtain ⟨c1, _, c3⟩ := hops_ball hl hjl hfb k hk
      obtain ⟨t, ht⟩ : ∃ t : Nat, (hops a j 18446744073709551615).getD i (-1) = t := ⟨((hops a j 18446744073709551615).getD i (-1)).toNat, by omega⟩
      have hb1 := (b1 t).1 ⟨h0, by omega⟩
      have hb2 : ball a (18446744073709551615 &&& (2 ^ a.length - 1)) j (t + 1) k := .inr ⟨by rw [all_bits hl]; exact all_bit.2 hk, i, hb1, hb⟩
      have := (c1 (t + 1)).2 hb2
      omega
    obtain ⟨hi, hk⟩ := h.lt hb
    have b2 := (hops_ball hl hjl hfb i hi).2.1
    have c2 := (hops_ball hl hjl hfb k hk).2.1
    have k1 := key hb
    have k2 := key (i := k) (k := i) (by rw [h.both]; exact hb)
    omega
  · rw [hops_out (by intro hh; exact hf ⟨hh.1, hh.2.1⟩)]
    obtain ⟨hi, hk⟩ := h.lt hb
    have g : ∀ i, i < a.length → (List.replicate a.length (-1 : Int)).getD i (-1) = -1 := fun i hi => by simp [List.getD_eq_getElem?_getD, hi]
    rw [g i hi, g k hk]
    decide
/-- Whoever starts is reached by none. -/
theorem start_law {a : List Nat} (hl : a.length ≤ 64) {f : Nat} (hf : f < a.length) : (hops a f 18446744073709551615).getD f (-1) = 0 := by
  have hfb : (18446744073709551615 &&& (2 ^ a.length - 1)).testBit f = true := by rw [all_bits hl]; exact all_bit.2 hf
  obtain ⟨b1, b2, _⟩ := hops_ball hl hf hfb f hf
  have := (b1 0).2 rfl
  omega
theorem hops_range {a : List Nat} (hl : a.length ≤ 64) (f : Int) (s : Nat) (i : Nat) (hi : i < a.length) : -1 ≤ (hops a f s).getD i (-1) ∧ (hops a f s).getD i (-1) < (a.length : Int) := by
  by_cases h : 0 ≤ f ∧ f < a.length ∧ (s &&& (2 ^ a.length - 1)).testBit f.toNat = true
  · obtain ⟨j, rfl⟩ : ∃ j : Nat, f = j := ⟨f.toNat, by omega⟩
    exact (hops_ball hl (by omega) (by simpa using h.2.2) i hi).2
  · rw [hops_out h]
    have g : (List.replicate a.length (-1 : Int)).getD i (-1) = -1 := by simp [List.getD_eq_getElem?_getD, hi]
    rw [g]
    omega
/-- Over fewer nodes there is no shorter way. -/
theorem fewer_law {a : List Nat} (hl : a.length ≤ 64) (f : Int) (s : Nat) (i : Nat) (hi : i < a.length) (h0 : 0 ≤ (hops a f s).getD i (-1)) :
    0 ≤ (hops a f 18446744073709551615).getD i (-1) ∧ (hops a f 18446744073709551615).getD i (-1) ≤ (hops a f s).getD i (-1) ∧ s.testBit i = true := by
  by_cases h : 0 ≤ f ∧ f < a.length ∧ (s &&& (2 ^ a.length - 1)).testBit f.toNat = true
  · obtain ⟨j, rfl⟩ : ∃ j : Nat, f = j := ⟨f.toNat, by omega⟩
    have hjl : j < a.length := by omega
    have hfs : (s &&& (2 ^ a.length - 1)).testBit j = true := by simpa using h.2.2
    have hfb : (18446744073709551615 &&& (2 ^ a.length - 1)).testBit j = true := by rw [all_bits hl]; exact all_bit.2 hjl
    obtain ⟨b1, _, _⟩ := hops_ball hl hjl hfs i hi
    obtain ⟨c1, _, _⟩ := hops_ball hl hjl hfb i hi
    obtain ⟨t, ht⟩ : ∃ t : Nat, (hops a j s).getD i (-1) = t := ⟨((hops a j s).getD i (-1)).toNat, by omega⟩
    have hb := (b1 t).1 ⟨h0, by omega⟩
    have hin := ball_in hfs hb
    rw [Nat.testBit_and, Bool.and_eq_true] at hin
    have hb2 := ball_more (a' := a) (s' := 18446744073709551615 &&& (2 ^ a.length - 1)) (fun _ _ h => h) (fun i hi => by rw [all_bits hl]; rw [Nat.testBit_and, Bool.and_eq_true] at hi; exact hi.2) hb
    have := (c1 t).2 hb2
    exact ⟨this.1, by omega, hin.1⟩
  · rw [hops_out h] at h0
    have g : (List.replicate a.length (-1 : Int)).getD i (-1) = -1 := by simp [List.getD_eq_getElem?_getD, hi]
    rw [g] at h0
    omega
end Go.Proofs.YtofflnklbdhaiaaDoor.Sc
