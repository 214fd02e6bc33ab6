/- The reference's In. -/
import Derived.Test.YtofflnklbdhaiaaDoorLk
namespace Go.Proofs.YtofflnklbdhaiaaDoor.Rf
open Go.RowKit Go.Proofs.YtofflnklbdhaiaaDoor.Lk
/-- Is a node one of a set? -/
def inb (x : Nat) (i : Int) : Bool := decide (0 ≤ i) && decide (i < 64) && x.testBit i.toNat
theorem inb_nat (x i : Nat) (h : i < 64) : inb x i = x.testBit i := by
  unfold inb
  rw [decide_eq_true (show (0 : Int) ≤ (i : Int) by omega), decide_eq_true (show (i : Int) < 64 by omega)]
  simp
theorem in_ok (x : Nat) (i : Int) (w : World) : Calls Tryd.prog 11 #[.int .u64 x, .int .i64 i] w fun e w' => e = .returned (.bool (inb x i)) ∧ w = w' := by
  unfold inb
  by_cases h0 : 0 ≤ i
  · by_cases h1 : i < 64
    · obtain ⟨j, rfl⟩ : ∃ j : Nat, i = j := ⟨i.toNat, by omega⟩
      rw [decide_eq_true h0, decide_eq_true h1, Int.toNat_natCast]
      have j2 : ¬ ((j : Int) < 0) := by omega
      have hwj : IntKind.u64.wrap (j : Int) = (j : Int) := by rw [IntKind.wrap_u64]; omega
      have hb : ((x : Int) / 2 ^ j).tmod 2 = (if x.testBit j then 1 else 0) := by
        have e1 : (x : Int) / 2 ^ j = ((x / 2 ^ j : Nat) : Int) := by simp
        have e2 : ∀ y : Nat, ((y : Nat) : Int).tmod 2 = ((y % 2 : Nat) : Int) := fun y => by rw [Int.tmod_eq_emod_of_nonneg (by omega)]; omega
        rw [e1, e2, Nat.testBit_eq_decide_div_mod_eq]
        rcases Nat.mod_two_eq_zero_or_one (x / 2 ^ j) with h | h <;> simp [h]
      cases ht : x.testBit j with
      | true =>
        rw [ht, if_pos rfl] at hb
        clear h0 ht
        go_enter Tryd.func11, Tryd.ntmps11
        go_wp2
        go_ret
        exact ⟨rfl, rfl⟩
      | false =>
        rw [ht, if_neg (by decide)] at hb
        clear h0 ht
        go_enter Tryd.func11, Tryd.ntmps11
        go_wp2
        go_ret
        exact ⟨rfl, rfl⟩
    · have f1 : decide (i < 64) = false := by simpa using h1
      have t0 : decide (0 ≤ i) = true := by simpa using h0
      rw [f1, t0]
      go_enter Tryd.func11, Tryd.ntmps11
      go_wp2
      go_ret
      exact ⟨rfl, rfl⟩
  · have f0 : decide (0 ≤ i) = false := by simpa using h0
    rw [f0]
    go_enter Tryd.func11, Tryd.ntmps11
    go_wp2
    go_ret
    exact ⟨rfl, rfl⟩
end Go.Proofs.YtofflnklbdhaiaaDoor.Rf
