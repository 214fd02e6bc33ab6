/- Who hears whom: a row of sets; the small functions. -/
import Derived.Test.YtofflnklbdhaiaaDoorChecked
import Derived.Test.YtofflnklbdhaiaaDoorKp
import Derived.Test.YtofflnklbdhaiaaDoorCk2
import Derived.Test.YtofflnklbdhaiaaDoorCk
import Derived.IntWalk
import Derived.Lib.Hide
import Derived.Laws.Bits64b
import Derived.BigRegion
namespace Go.Proofs.YtofflnklbdhaiaaDoor.Lk
open Go.RowKit Go.Proofs.YtofflnklbdhaiaaDoor.Bk Go.Proofs.YtofflnklbdhaiaaDoor.Rw Go.Proofs.YtofflnklbdhaiaaDoor.Ow Go.Proofs.YtofflnklbdhaiaaDoor.Kp Go.Proofs.YtofflnklbdhaiaaDoor.Ck Go.Proofs.YtofflnklbdhaiaaDoor.Ck2

abbrev us (a : List Nat) : List Value := a.map fun x : Nat => .int .u64 (x : Int)
/-- Links at block p, their sets at block g. -/
structure Ln (w : World) (p g : Nat) (a : List Nat) : Prop where
  box : Blk w p 65 #[.int .i64 a.length, .slice (some ⟨g, 0, none⟩) a.length a.length]
  row : Blk w g 23 (us a).toArray
  ne : p ≠ g
  small : ∀ x ∈ a, x < 2 ^ 64
  lo : 1 ≤ a.length
  hi : a.length ≤ 64
section
variable {w w' : World} {p g : Nat} {a : List Nat}
theorem Ln.kp {S : Nat → Prop} (h : Ln w p g a) (hk : Kp S w w') (hp : ¬ S p) (hg : ¬ S g) : Ln w' p g a := ⟨blk_kp h.box hk hp, blk_kp h.row hk hg, h.ne, h.small, h.lo, h.hi⟩
theorem Ln.below (h : Ln w p g a) (hb : Below w.heap.size w w') : Ln w' p g a := ⟨h.box.keeps hb, h.row.keeps hb, h.ne, h.small, h.lo, h.hi⟩
theorem Ln.at_ (h : Ln w p g a) {i : Nat} (hi : i < a.length) : w.cell? ⟨g, i, none⟩ = some (.int .u64 (a.getD i 0 : Nat)) := by
  rw [h.row.cell i]
  simp [us, hi, List.getD_eq_getElem?_getD]
theorem Ln.lt (h : Ln w p g a) : p < w.heap.size ∧ g < w.heap.size := ⟨h.box.lt, h.row.lt⟩
end
/-- Links, or none. -/
abbrev Lo (w : World) (l : Option Addr) (a : List Nat) : Prop := (l = none ∧ a = []) ∨ ∃ p g, l = some ⟨p, 0, none⟩ ∧ Ln w p g a
theorem len_any (l : Option Addr) (a : List Nat) (w : World) (h : Lo w l a) : Calls Tryd.prog 16 #[.pointer l] w fun e w' => e = .returned (.int .i64 a.length) ∧ w = w' := by
  rcases h with ⟨rfl, rfl⟩ | ⟨p, g, rfl, h⟩
  · go_enter Tryd.func16, Tryd.ntmps16
    go_wp2
    go_ret
    exact ⟨rfl, rfl⟩
  · have c0 := h.box.cell 0
    clear h
    go_enter Tryd.func16, Tryd.ntmps16
    go_wp2
    go_ret
    exact ⟨rfl, rfl⟩
theorem in_any (l : Option Addr) (a : List Nat) (i : Int) (w : World) (h : Lo w l a) : Calls Tryd.prog 20 #[.pointer l, .int .i64 i] w fun e w' => e = .returned (.bool (decide (0 ≤ i) && decide (i < a.length))) ∧ w = w' := by
  have CL := Lib.hid (len_any l a w h)
  clear h
  by_cases h0 : 0 ≤ i
  · have h1 : decide (0 ≤ i) = true := by simpa using h0
    rw [h1]
    go_enter Tryd.func20, Tryd.ntmps20
    go_wp2_with (go_at_call 16; (with_reducible refine Calls.mono CL.out ?_); rintro e w1 ⟨rfl, rfl⟩)
    go_ret
    exact ⟨rfl, rfl⟩
  · have h1 : decide (0 ≤ i) = false := by simpa using h0
    rw [h1]
    go_enter Tryd.func20, Tryd.ntmps20
    go_wp2
    go_ret
    exact ⟨rfl, rfl⟩
/-- Is i a node's number? -/
abbrev isn (a : List Nat) (i : Int) : Bool := decide (0 ≤ i) && decide (i < a.length)
theorem may_any (l : Option Addr) (a : List Nat) (i k : Int) (w : World) (h : Lo w l a) : Calls Tryd.prog 21 #[.pointer l, .int .i64 i, .int .i64 k] w fun e w' => e = .returned (.bool (isn a i && isn a k && !(i == k))) ∧ w = w' := by
  have C1 := Lib.hid (show Calls Tryd.prog 20 #[.pointer l, .int .i64 i] w fun e w' => e = .returned (.bool (isn a i)) ∧ w = w' from in_any l a i w h)
  have C2 := Lib.hid (show Calls Tryd.prog 20 #[.pointer l, .int .i64 k] w fun e w' => e = .returned (.bool (isn a k)) ∧ w = w' from in_any l a k w h)
  clear h
  generalize isn a i = bi at C1 ⊢
  generalize isn a k = bk at C2 ⊢
  cases bi <;> cases bk <;>
  · go_enter Tryd.func21, Tryd.ntmps21
    go_wp2_with (first
      | (go_at_call 20; (with_reducible refine Calls.mono C1.out ?_); rintro e w1 ⟨rfl, rfl⟩)
      | (go_at_call 20; (with_reducible refine Calls.mono C2.out ?_); rintro e w1 ⟨rfl, rfl⟩))
    go_ret
    exact ⟨rfl, rfl⟩
/-- The set of a node. -/
abbrev set_ (a : List Nat) (i : Int) : Nat := if isn a i then a.getD i.toNat 0 else 0
theorem near_any (l : Option Addr) (a : List Nat) (i : Int) (w : World) (h : Lo w l a) : Calls Tryd.prog 18 #[.pointer l, .int .i64 i] w fun e w' => e = .returned (.int .u64 (set_ a i)) ∧ w = w' := by
  have C1 := Lib.hid (show Calls Tryd.prog 20 #[.pointer l, .int .i64 i] w fun e w' => e = .returned (.bool (isn a i)) ∧ w = w' from in_any l a i w h)
  by_cases hi : isn a i = true
  · have hi2 := hi
    simp only [isn, Bool.and_eq_true, decide_eq_true_eq] at hi2
    obtain ⟨k, rfl⟩ : ∃ k : Nat, i = k := ⟨i.toNat, by omega⟩
    rcases h with ⟨rfl, rfl⟩ | ⟨p, g, rfl, h⟩
    · simp at hi2; omega
    have e1 : set_ a (k : Int) = a.getD k 0 := by simp only [set_, hi, if_true, Int.toNat_natCast]
    rw [e1]
    rw [hi] at C1
    have c1 := h.box.cell 1
    have ck := h.at_ (i := k) (by omega)
    have n1 : k < a.length := by omega
    have n2 : (k : Int) < (a.length : Int) := by omega
    generalize a.getD k 0 = x at ck ⊢
    clear h hi e1
    go_enter Tryd.func18, Tryd.ntmps18
    go_wp2_with (go_at_call 20; (with_reducible refine Calls.mono C1.out ?_); rintro e w1 ⟨rfl, rfl⟩)
    go_ret
    exact ⟨rfl, rfl⟩
  · have hi2 : isn a i = false := by simpa using hi
    have e1 : set_ a i = 0 := by simp only [set_, hi2]; rfl
    rw [e1]
    rw [hi2] at C1
    clear h hi e1
    go_enter Tryd.func18, Tryd.ntmps18
    go_wp2_with (go_at_call 20; (with_reducible refine Calls.mono C1.out ?_); rintro e w1 ⟨rfl, rfl⟩)
    go_ret
    exact ⟨rfl, rfl⟩
theorem set_lt {l : Option Addr} {a : List Nat} {w : World} (h : Lo w l a) (i : Int) : set_ a i < 2 ^ 64 := by
  unfold set_
  split
  · rename_i hi
    simp only [isn, Bool.and_eq_true, decide_eq_true_eq] at hi
    rcases h with ⟨rfl, rfl⟩ | ⟨p, g, rfl, h⟩
    · simp at hi; omega
    have hlt : i.toNat < a.length := by omega
    rw [List.getD_eq_getElem?_getD, List.getElem?_eq_getElem hlt]
    exact h.small _ (List.getElem_mem hlt)
  · decide
theorem bit_is (x j : Nat) (hx : x < 2 ^ 64) : (bits BinOp.and IntKind.u64 ((x : Int) / 2 ^ j) 1 == 1) = x.testBit j := by
  have e1 : (x : Int) / 2 ^ j = ((x / 2 ^ j : Nat) : Int) := by simp
  have hl : x / 2 ^ j < 2 ^ 64 := Nat.lt_of_le_of_lt (Nat.div_le_self _ _) hx
  rw [e1, show (1 : Int) = ((1 : Nat) : Int) from rfl, bits_and_u64_nat _ 1 hl (by decide), Nat.and_one_is_mod, Nat.testBit_eq_decide_div_mod_eq]
  by_cases h : x / 2 ^ j % 2 = 1
  · simp [h]
  · have : x / 2 ^ j % 2 = 0 := by omega
    simp [this]
theorem has_any (l : Option Addr) (a : List Nat) (i k : Int) (w : World) (h : Lo w l a) (ha : a.length ≤ 64) : Calls Tryd.prog 12 #[.pointer l, .int .i64 i, .int .i64 k] w fun e w' => e = .returned (.bool (isn a k && (set_ a i).testBit k.toNat)) ∧ w = w' := by
  have C1 := Lib.hid (show Calls Tryd.prog 20 #[.pointer l, .int .i64 k] w fun e w' => e = .returned (.bool (isn a k)) ∧ w = w' from in_any l a k w h)
  have C2 := Lib.hid (near_any l a i w h)
  by_cases hk : isn a k = true
  · have hk2 := hk
    simp only [isn, Bool.and_eq_true, decide_eq_true_eq] at hk2
    obtain ⟨j, rfl⟩ : ∃ j : Nat, k = j := ⟨k.toNat, by omega⟩
    rw [hk] at C1 ⊢
    have j1 : j < 64 := by omega
    have j2 : ¬ ((j : Int) < 0) := by omega
    have HX := Lib.hid (set_lt h i)
    generalize set_ a i = x at C2 HX ⊢
    clear h hk hk2
    go_enter Tryd.func12, Tryd.ntmps12
    go_wp2_with (first
      | (go_at_call 20; (with_reducible refine Calls.mono C1.out ?_); rintro e w1 ⟨rfl, rfl⟩)
      | (go_at_call 18; (with_reducible refine Calls.mono C2.out ?_); rintro e w1 ⟨rfl, rfl⟩))
    rw [bit_is _ _ HX.out]
    go_ret
    exact ⟨by simp, rfl⟩
  · have hk2 : isn a k = false := by simpa using hk
    rw [hk2] at C1 ⊢
    clear h hk
    go_enter Tryd.func12, Tryd.ntmps12
    go_wp2_with (go_at_call 20; (with_reducible refine Calls.mono C1.out ?_); rintro e w1 ⟨rfl, rfl⟩)
    go_ret
    exact ⟨rfl, rfl⟩
end Go.Proofs.YtofflnklbdhaiaaDoor.Lk
