/- A link more makes no way longer; the greatest number of a row. -/
import Derived.Test.YtfmkamkbbeahgaaDoorWi
namespace Go.Proofs.YtfmkamkbbeahgaaDoor.Wp
open Go.RowKit Go.Proofs.YtfmkamkbbeahgaaDoor.Bl Go.Proofs.YtfmkamkbbeahgaaDoor.Lk Go.Proofs.YtfmkamkbbeahgaaDoor.Hm Go.Proofs.YtfmkamkbbeahgaaDoor.Bm Go.Proofs.YtfmkamkbbeahgaaDoor.Sc Go.Proofs.YtfmkamkbbeahgaaDoor.Wi
theorem mayb_step (a : List Nat) (i k x y : Int) (o : Bool) : mayb (Sc.step a i k o) x y = mayb a x y := by
  unfold mayb isn
  rw [step_length]
theorem mx_le (H : List Int) (X : Int) : ∀ (l : List Nat) (m : Int), mx H m l ≤ X ↔ m ≤ X ∧ ∀ k ∈ l, H.getD k (-1) ≤ X
  | [], m => by simp [mx]
  | x :: l, m => by
    show mx H (max m (H.getD x (-1))) l ≤ X ↔ _
    rw [mx_le H X l]
    simp only [List.mem_cons, forall_eq_or_imp]
    constructor
    · rintro ⟨h1, h2⟩
      exact ⟨by omega, by omega, h2⟩
    · rintro ⟨h1, h2, h3⟩
      exact ⟨by omega, h3⟩
theorem mo_le (a : List Nat) (s : Nat) (E : List Nat) (X : Int) : ∀ (l : List Nat) (m : Int), mo a s E m l ≤ X ↔ m ≤ X ∧ ∀ i ∈ l, ∀ k ∈ E, (hops a (i : Nat) s).getD k (-1) ≤ X
  | [], m => by simp [mo]
  | x :: l, m => by
    show mo a s E (mx (hops a (x : Nat) s) m E) l ≤ X ↔ _
    rw [mo_le a s E X l, mx_le]
    simp only [List.mem_cons, forall_eq_or_imp]
    constructor
    · rintro ⟨⟨h1, h2⟩, h3⟩
      exact ⟨h1, h2, h3⟩
    · rintro ⟨h1, h2, h3⟩
      exact ⟨⟨h1, h2⟩, h3⟩
theorem bl_all {n k : Nat} (hn : n ≤ 64) : k ∈ bl (18446744073709551615 &&& (2 ^ n - 1)) ↔ k < n := by
  rw [all_bits hn, bl_mem, all_bit]
  omega
/-- A link more. -/
theorem more_law {a : List Nat} (h : Sy a) (h1 : 1 ≤ a.length) (hl : a.length ≤ 64) (i k : Int) (v v' : Int) (o' : Bool) (hw : Wd a 18446744073709551615 v true) (hw' : Wd (Sc.step a i k true) 18446744073709551615 v' o') :
    o' = true ∧ v' ≤ v ∧ v' < (a.length : Int) := by
  have hal : (Sc.step a i k true).length = a.length := step_length _ _ _ _
  have hne : ¬ (18446744073709551615 &&& (2 ^ a.length - 1) = 0) := by
    rw [all_bits hl]
    have : 2 ^ 1 ≤ 2 ^ a.length := Nat.pow_le_pow_right (by decide) h1
    omega
  have hmore : ∀ j x, (a.getD j 0).testBit x = true → ((Sc.step a i k true).getD j 0).testBit x = true := by
    intro j x hb
    unfold Sc.step
    split
    · rename_i hm
      simp only [mayb, isn, Bool.and_eq_true, decide_eq_true_eq, Bool.not_eq_true', beq_eq_false_iff_ne] at hm
      have := link_bit h.small (i := i.toNat) (k := k.toNat) (by omega) (by omega) hl (by omega) true j x
      unfold B at this
      rw [this]
      split
      · rfl
      · exact hb
    · exact hb
  unfold Wd at hw hw'
  rw [hal] at hw'
  rw [if_neg hne] at hw hw'
  rcases hw with ⟨_, hg, hv⟩ | ⟨h, _⟩
  rotate_left
  · cases h
  have key : ∀ x, x < a.length → ∀ y, y < a.length → 0 ≤ (hops (Sc.step a i k true) (x : Nat) 18446744073709551615).getD y (-1) ∧ (hops (Sc.step a i k true) (x : Nat) 18446744073709551615).getD y (-1) ≤ (hops a (x : Nat) 18446744073709551615).getD y (-1) := by
    intro x hx y hy
    have g0 := hg x ((bl_all hl).2 hx) y ((bl_all hl).2 hy)
    have hfb : (18446744073709551615 &&& (2 ^ a.length - 1)).testBit x = true := by rw [all_bits hl]; exact all_bit.2 hx
    obtain ⟨b1, _, _⟩ := hops_ball hl hx hfb y hy
    obtain ⟨c1, _, _⟩ := hops_ball (a := Sc.step a i k true) (s := 18446744073709551615) (f := x) (by omega) (by omega) (by rw [hal]; exact hfb) y (by omega)
    obtain ⟨t, ht⟩ : ∃ t : Nat, (hops a (x : Nat) 18446744073709551615).getD y (-1) = t := ⟨((hops a (x : Nat) 18446744073709551615).getD y (-1)).toNat, by omega⟩
    have hb := (b1 t).1 ⟨g0, by omega⟩
    have hb2 := ball_more (a' := Sc.step a i k true) (s' := 18446744073709551615 &&& (2 ^ (Sc.step a i k true).length - 1)) hmore (fun i hi => by rw [hal]; exact hi) hb
    have := (c1 t).2 hb2
    omega
  have hg' : good (Sc.step a i k true) 18446744073709551615 (bl (18446744073709551615 &&& (2 ^ a.length - 1))) (bl (18446744073709551615 &&& (2 ^ a.length - 1))) := fun x hx y hy => (key x ((bl_all hl).1 hx) y ((bl_all hl).1 hy)).1
  rcases hw' with ⟨ho, _, hv'⟩ | ⟨_, _, hn⟩
  rotate_left
  · exact absurd hg' hn
  refine ⟨ho, ?_, ?_⟩
  · rw [hv', mo_le]
    have hself := (mo_le a 18446744073709551615 (bl (18446744073709551615 &&& (2 ^ a.length - 1))) v (bl (18446744073709551615 &&& (2 ^ a.length - 1))) 0).1 (by omega)
    refine ⟨hself.1, fun x hx y hy => ?_⟩
    have h1 := (key x ((bl_all hl).1 hx) y ((bl_all hl).1 hy)).2
    have h2 := hself.2 x hx y hy
    omega
  · have : v' ≤ (a.length : Int) - 1 := by
      rw [hv', mo_le]
      refine ⟨by omega, fun x _ y hy => ?_⟩
      have hy2 := (bl_all hl).1 hy
      have := (hops_range (a := Sc.step a i k true) (by omega) (x : Nat) 18446744073709551615 y (by omega)).2
      rw [hal] at this
      omega
    omega
end Go.Proofs.YtfmkamkbbeahgaaDoor.Wp
