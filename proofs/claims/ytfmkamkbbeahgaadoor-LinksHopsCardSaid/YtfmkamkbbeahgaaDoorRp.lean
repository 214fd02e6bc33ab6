/- The reference's Hops, in rounds over all pairs: what its row says between them. -/
import Derived.Test.YtfmkamkbbeahgaaDoorRf
import Derived.Test.YtfmkamkbbeahgaaDoorSc
namespace Go.Proofs.YtfmkamkbbeahgaaDoor.Rp
open Go.RowKit Go.Proofs.YtfmkamkbbeahgaaDoor.Bl Go.Proofs.YtfmkamkbbeahgaaDoor.Lk Go.Proofs.YtfmkamkbbeahgaaDoor.Hm Go.Proofs.YtfmkamkbbeahgaaDoor.Bm Go.Proofs.YtfmkamkbbeahgaaDoor.Sc Go.Proofs.YtfmkamkbbeahgaaDoor.Rf
/-- Behind t rounds. -/
structure Q (a : List Nat) (S f t : Nat) (o : List Int) : Prop where
  len : o.length = a.length
  says : ∀ i, i < a.length → ∀ u : Nat, u ≤ t → ((0 ≤ o.getD i (-1) ∧ o.getD i (-1) ≤ (u : Int)) ↔ ball a S f u i)
  lo : ∀ i, i < a.length → -1 ≤ o.getD i (-1)
  hi : ∀ i, i < a.length → o.getD i (-1) ≤ (t : Int)
/-- Within round t, ahead of the pair x, y. -/
structure M (a : List Nat) (S f t x y : Nat) (o : List Int) : Prop where
  len : o.length = a.length
  says : ∀ i, i < a.length → ∀ u : Nat, u ≤ t → ((0 ≤ o.getD i (-1) ∧ o.getD i (-1) ≤ (u : Int)) ↔ ball a S f u i)
  lo : ∀ i, i < a.length → -1 ≤ o.getD i (-1)
  hi : ∀ i, i < a.length → o.getD i (-1) ≤ (t : Int) ∨ (o.getD i (-1) = (t : Int) + 1 ∧ ball a S f (t + 1) i)
  past : ∀ i k, i < a.length → k < a.length → (i < x ∨ (i = x ∧ k < y)) → o.getD i (-1) = (t : Int) → B a i k = true → S.testBit k = true → 0 ≤ o.getD k (-1)
section
variable {a : List Nat} {S f t x y : Nat} {o : List Int}
theorem Q.start (h : Q a S f t o) : M a S f t 0 0 o := ⟨h.len, h.says, h.lo, fun i hi => .inl (h.hi i hi), fun i k _ _ h => by omega⟩
theorem M.next (h : M a S f t x a.length o) : M a S f t (x + 1) 0 o := ⟨h.len, h.says, h.lo, h.hi, fun i k hi hk hp => h.past i k hi hk (by omega)⟩
theorem M.stop (h : M a S f t a.length 0 o) (hS : ∀ i, S.testBit i = true → i < a.length) (hf : S.testBit f = true) : Q a S f (t + 1) o := by
  refine ⟨h.len, fun i hi u hu => ?_, h.lo, fun i hi => ?_⟩
  · rcases Nat.lt_or_ge u (t + 1) with hlt | hge
    · exact h.says i hi u (by omega)
    · have : u = t + 1 := by omega
      subst this
      constructor
      · rintro ⟨h0, h1⟩
        rcases h.hi i hi with h2 | ⟨_, h2⟩
        · exact .inl ((h.says i hi t (Nat.le_refl _)).1 ⟨h0, h2⟩)
        · exact h2
      · intro hb
        rcases hb with hb | ⟨hsi, j, hb, hji⟩
        · have := (h.says i hi t (Nat.le_refl _)).2 hb
          omega
        · have hj := hS j (ball_in hf hb)
          have h1 := (h.says j hj t (Nat.le_refl _)).2 hb
          have h0 : 0 ≤ o.getD i (-1) := by
            by_cases he : o.getD j (-1) = (t : Int)
            · exact h.past j i hj hi (.inl hj) he hji hsi
            · obtain ⟨u, hu⟩ : ∃ u : Nat, o.getD j (-1) = u := ⟨(o.getD j (-1)).toNat, by omega⟩
              have hb2 := (h.says j hj u (by omega)).1 ⟨by omega, by omega⟩
              have hb3 : ball a S f (u + 1) i := .inr ⟨hsi, j, hb2, hji⟩
              exact ((h.says i hi (u + 1) (by omega)).2 hb3).1
          rcases h.hi i hi with h2 | ⟨h2, _⟩ <;> omega
  · rcases h.hi i hi with h2 | ⟨h2, _⟩ <;> omega
theorem M.skip (h : M a S f t x y o) (hn : ¬ (o.getD x (-1) = (t : Int) ∧ o.getD y (-1) < 0 ∧ B a x y = true ∧ S.testBit y = true)) : M a S f t x (y + 1) o := by
  refine ⟨h.len, h.says, h.lo, h.hi, fun i k hi hk hp he hb hs => ?_⟩
  by_cases hc : i = x ∧ k = y
  · obtain ⟨rfl, rfl⟩ := hc
    refine Classical.byContradiction fun h0 => hn ⟨he, by omega, hb, hs⟩
  · exact h.past i k hi hk (by omega) he hb hs
theorem getD_set (o : List Int) (y i : Nat) (v : Int) (hy : y < o.length) : (o.set y v).getD i (-1) = if i = y then v else o.getD i (-1) := by
  by_cases h : i = y
  · subst h
    rw [if_pos rfl, List.getD_eq_getElem?_getD, List.getElem?_set_self hy]
    rfl
  · rw [if_neg h, List.getD_eq_getElem?_getD, List.getElem?_set_ne (fun e => h e.symm), List.getD_eq_getElem?_getD]
theorem M.put (h : M a S f t x y o) (hx : x < a.length) (hy : y < a.length) (h1 : o.getD x (-1) = (t : Int)) (h2 : o.getD y (-1) < 0) (h3 : B a x y = true) (h4 : S.testBit y = true) : M a S f t x (y + 1) (o.set y ((t : Int) + 1)) := by
  have hb : ball a S f (t + 1) y := .inr ⟨h4, x, (h.says x hx t (Nat.le_refl _)).1 ⟨by omega, by omega⟩, h3⟩
  have g := fun i => getD_set o y i ((t : Int) + 1) (by rw [h.len]; exact hy)
  refine ⟨by rw [List.length_set]; exact h.len, fun i hi u hu => ?_, fun i hi => ?_, fun i hi => ?_, fun i k hi hk hp he hbb hs => ?_⟩
  · rw [g i]
    by_cases hc : i = y
    · subst hc
      rw [if_pos rfl]
      have := h.says i hi u hu
      constructor
      · intro; omega
      · intro hbu
        have := this.2 hbu
        omega
    · rw [if_neg hc]
      exact h.says i hi u hu
  · rw [g i]
    split
    · omega
    · exact h.lo i hi
  · rw [g i]
    by_cases hc : i = y
    · subst hc
      rw [if_pos rfl]
      exact .inr ⟨rfl, hb⟩
    · rw [if_neg hc]
      exact h.hi i hi
  · rw [g i] at he
    rw [g k]
    by_cases hc : k = y
    · rw [if_pos hc]
      omega
    · rw [if_neg hc]
      by_cases hci : i = y
      · rw [if_pos hci] at he
        omega
      · rw [if_neg hci] at he
        exact h.past i k hi hk (by omega) he hbb hs
theorem Q.first (hf : f < a.length) : Q a S f 0 ((List.replicate a.length (-1 : Int)).set f 0) := by
  have g := fun i => getD_set (List.replicate a.length (-1)) f i 0 (by simpa using hf)
  have gr : ∀ i, i < a.length → (List.replicate a.length (-1 : Int)).getD i (-1) = -1 := fun i hi => by simp [List.getD_eq_getElem?_getD, hi]
  refine ⟨by simp, fun i hi u hu => ?_, fun i hi => ?_, fun i hi => ?_⟩
  · have : u = 0 := by omega
    subst this
    rw [g i]
    by_cases hc : i = f
    · rw [if_pos hc]
      exact ⟨fun _ => hc, fun _ => by omega⟩
    · rw [if_neg hc, gr i hi]
      exact ⟨fun h => by omega, fun h => absurd h hc⟩
  · rw [g i]
    split
    · omega
    · rw [gr i hi]; omega
  · rw [g i]
    split
    · omega
    · rw [gr i hi]; omega
theorem Q.last {s : Nat} (h : Q a (s &&& (2 ^ a.length - 1)) f a.length o) (hl : a.length ≤ 64) (hfl : f < a.length) (hf : (s &&& (2 ^ a.length - 1)).testBit f = true) : o = hops a f s := by
  apply List.ext_getElem?
  intro i
  rcases Nat.lt_or_ge i a.length with hi | hi
  · have e : ∀ (l : List Int), l.length = a.length → l[i]? = some (l.getD i (-1)) := fun l hl => by
      rw [List.getD_eq_getElem?_getD, List.getElem?_eq_getElem (by omega)]
      rfl
    rw [e o h.len, e _ (hops_length _ _ _)]
    obtain ⟨b1, b2, b3⟩ := hops_ball hl hfl hf i hi
    have h1 := h.lo i hi
    have h2 := h.hi i hi
    congr 1
    rcases Int.lt_or_le (o.getD i (-1)) 0 with c | c
    · rcases Int.lt_or_le ((hops a f s).getD i (-1)) 0 with c2 | c2
      · omega
      · obtain ⟨u, hu⟩ : ∃ u : Nat, (hops a f s).getD i (-1) = u := ⟨((hops a f s).getD i (-1)).toNat, by omega⟩
        have := (h.says i hi u (by omega)).2 ((b1 u).1 ⟨c2, by omega⟩)
        omega
    · obtain ⟨v, hv⟩ : ∃ v : Nat, o.getD i (-1) = v := ⟨(o.getD i (-1)).toNat, by omega⟩
      have hb := (b1 v).2 ((h.says i hi v (by omega)).1 ⟨c, by omega⟩)
      obtain ⟨u, hu⟩ : ∃ u : Nat, (hops a f s).getD i (-1) = u := ⟨((hops a f s).getD i (-1)).toNat, by omega⟩
      have := (h.says i hi u (by omega)).2 ((b1 u).1 ⟨hb.1, by omega⟩)
      omega
  · rw [List.getElem?_eq_none (by rw [h.len]; exact hi), List.getElem?_eq_none (by rw [hops_length]; exact hi)]
end
end Go.Proofs.YtfmkamkbbeahgaaDoor.Rp
