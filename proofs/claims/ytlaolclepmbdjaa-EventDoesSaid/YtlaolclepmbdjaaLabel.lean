/- The walks of Good, the program's and the reference's: is a text a label? -/
import Derived.Test.YtlaolclepmbdjaaChecked
import Derived.Test.YtlaolclepmbdjaaRng
import Derived.Deep.QuietTactic
import Derived.BigQuiet
import Derived.BigRegion
import Derived.WalkLawsBesides
import Derived.WalkSpells
import Derived.IntWalk
import Derived.Lib.Hide
namespace Go.Proofs.Ytlaolclepmbdjaa.Label
open Go.RowKit Go.Proofs.Ytlaolclepmbdjaa.Bk Go.Proofs.Ytlaolclepmbdjaa.Kp Go.Proofs.Ytlaolclepmbdjaa.Rng

def lab (x : Int) : Prop := x = 95 ∨ (97 ≤ x ∧ x ≤ 122) ∨ (48 ≤ x ∧ x ≤ 57)
instance (x : Int) : Decidable (lab x) := by unfold lab; infer_instance
/-- Is a text a label? -/
def Lab (s : ByteArray) : Bool := decide ((∀ x ∈ bl s, lab x) ∧ 1 ≤ s.size ∧ s.size ≤ 12)
theorem no_lab {s : ByteArray} {p : Nat} {x : Int} (hx : (bl s)[p]? = some x) (h : ¬ lab x) : Lab s = false := decide_eq_false fun h2 => h (h2.1 x (List.mem_of_getElem? hx))
theorem all_lab {s : ByteArray} (h : ∀ j, j < s.size → ∃ x, (bl s)[j]? = some x ∧ lab x) : Lab s = (decide (1 ≤ s.size) && decide (s.size ≤ 12)) := by
  have h1 : ∀ x ∈ bl s, lab x := fun x hx => by
    obtain ⟨k, hk, he⟩ := List.getElem_of_mem hx
    obtain ⟨y, h2, h3⟩ := h k (by have := bl_length s; omega)
    rw [List.getElem?_eq_getElem hk, he] at h2
    injection h2 with h2
    rwa [h2]
  unfold Lab
  by_cases a : 1 ≤ s.size
  · by_cases b : s.size ≤ 12
    · simp only [a, b, and_self, and_true, decide_true, Bool.and_self]
      exact decide_eq_true h1
    · simp [a, b]
  · simp [a]

set_option maxHeartbeats 1000000 in
theorem good_ok (s : ByteArray) (w : World) (hs : s.size ≤ 140737488355328) :
    Calls Try.prog 7 #[.string s] w fun e w' => e = .returned (.bool (Lab s)) ∧ Below w.heap.size w w' := by
  go_enter Try.func7, Try.ntmps7
  go_wp2
  obtain ⟨w1, hw1, hi1, hb1⟩ : ∃ w1, w.iter s 0 = w1 ∧ w1.heap[w.heap.size]? = some (.stringIter s 0) ∧ Below w.heap.size w w1 := ⟨_, rfl, World.iter_heap w s 0, (Below.refl _ w).alloc (Nat.le_refl _) _⟩
  rw [hw1]
  have HI := Lib.hid hi1
  have HB := Lib.hid hb1
  clear hw1 hi1 hb1
  go_loopw [3] (fun n wr => ∃ p : Nat, p ≤ s.size ∧ n = .int .i64 p ∧ (∀ j, j < p → ∃ x, (bl s)[j]? = some x ∧ lab x) ∧ wr.heap[w.heap.size]? = some (.stringIter s p) ∧ Below w.heap.size w wr) (fun n _ => s.size - (intOf n).toNat)
  case atStart => exact ⟨0, Nat.zero_le _, rfl, fun j hj => by omega, HI.out, HB.out⟩
  case round =>
    clear HI HB
    obtain ⟨p, hp, rfl, hl, hi, hb⟩ := hrel
    by_cases hlt : p < s.size
    · obtain ⟨c, k, hdec, hc31, hc⟩ := dec_spec s p hlt
      obtain ⟨w2, hnext, hi2, hkp⟩ : ∃ w2, (∀ ty, (Instr.next (.pointer (some ⟨w.heap.size, 0, none⟩)) true ty).run Try.prog wr = .ok (.tuple #[.bool true, .int .i64 p, .int .i32 c]) w2) ∧ w2.heap[w.heap.size]? = some (.stringIter s (p + k)) ∧ Kp (· = w.heap.size) wr w2 := by
        refine ⟨_, fun ty => ?_, setO_self wr _ (.stringIter s (p + k)) ?_, setO_kp _ _ _⟩
        · have := next_some (P := Try.prog) wr w.heap.size s p ty hi hlt
          rw [hdec] at this
          exact this
        · exact (Array.getElem?_eq_some_iff.1 hi).1
      have HB2 := Lib.hid (below_kp hb hb.size hkp (fun q hq => by subst hq; exact Nat.le_refl _))
      have HI2 := Lib.hid hi2
      have HL := Lib.hid hl
      have HC := Lib.hid hc
      clear hi2 hl hi hb hkp hdec hc
      by_cases hd : lab c
      · have hk : k = 1 ∧ (bl s)[p]? = some (c : Int) := by
          rcases HC.out with ⟨_, h2, h3⟩ | ⟨h1, _⟩
          · exact ⟨h2, h3⟩
          · unfold lab at hd; omega
        have HX := Lib.hid hk.2
        have HD := Lib.hid hd
        obtain rfl := hk.1
        clear hk
        unfold lab at hd
        go_wp2
        all_goals
          go_roundw
          case rel => exact ⟨p + 1, by omega, by go_num, fun j hj => by
            by_cases e : j = p
            · subst e
              exact ⟨c, HX.out, HD.out⟩
            · exact HL.out j (by omega), HI2.out, HB2.out⟩
          case measure => simp [intOf]; omega
      · have hno : Lab s = false := by
          rcases HC.out with ⟨_, h2, h3⟩ | ⟨h1, x, h3, h4⟩
          · exact no_lab h3 hd
          · exact no_lab h3 (by unfold lab; omega)
        have HNO := Lib.hid hno
        clear hno
        unfold lab at hd
        have hne : ((c : Int) != 95) = true := bne_iff_ne.mpr (by omega)
        rcases (by omega : (c : Int) < 48 ∨ (58 ≤ (c : Int) ∧ (c : Int) ≤ 94) ∨ (c : Int) = 96 ∨ 123 ≤ (c : Int)) with hc1 | ⟨hc1, hc2⟩ | hc1 | hc1
        all_goals
          clear hd
          go_wp2
          go_ret
          exact ⟨by rw [HNO.out]; rfl, HB2.out⟩
    · obtain rfl : p = s.size := by omega
      have hnext : ∀ ty, (Instr.next (.pointer (some ⟨w.heap.size, 0, none⟩)) true ty).run Try.prog wr = .ok (.tuple #[.bool false]) wr := fun ty => next_none wr _ s s.size ty hi hlt
      have ha := all_lab hl
      have HB := Lib.hid hb
      clear hi hl hb
      by_cases c1 : 1 ≤ s.size
      · by_cases c2 : s.size ≤ 12
        · have HA := Lib.hid (show Lab s = true by rw [ha]; simp [c1, c2])
          have c1' : decide (1 ≤ (s.size : Int)) = true := decide_eq_true (by omega)
          have c2' : decide ((s.size : Int) ≤ 12) = true := decide_eq_true (by omega)
          clear ha
          go_wp2
          go_ret
          exact ⟨by rw [HA.out]; rfl, HB.out⟩
        · have HA := Lib.hid (show Lab s = false by rw [ha]; simp [c2])
          have c1' : decide (1 ≤ (s.size : Int)) = true := decide_eq_true (by omega)
          have c2' : decide ((s.size : Int) ≤ 12) = false := decide_eq_false (by omega)
          clear ha
          go_wp2
          go_ret
          exact ⟨by rw [HA.out]; rfl, HB.out⟩
      · have HA := Lib.hid (show Lab s = false by rw [ha]; simp [c1])
        have c1' : decide (1 ≤ (s.size : Int)) = false := decide_eq_false (by omega)
        clear ha
        go_wp2
        go_ret
        exact ⟨by rw [HA.out]; rfl, HB.out⟩

set_option maxHeartbeats 1000000 in
theorem refgood_ok (s : ByteArray) (w : World) (hs : s.size ≤ 140737488355328) :
    Calls Try.prog 8 #[.string s] w fun e w' => e = .returned (.bool (Lab s)) ∧ w = w' := by
  go_enter Try.func8, Try.ntmps8
  go_wp2
  go_loopw [3] (fun n wr => ∃ p : Nat, p ≤ s.size ∧ n = .int .i64 p ∧ (∀ j, j < p → ∃ x, (bl s)[j]? = some x ∧ lab x) ∧ wr = w) (fun n _ => s.size - (intOf n).toNat)
  case atStart => exact ⟨0, Nat.zero_le _, rfl, fun j hj => by omega, rfl⟩
  case round =>
    obtain ⟨p, hp, rfl, hl, rfl⟩ := hrel
    by_cases hlt : p < s.size
    · have hb := byte_at s p hlt
      have hi9 : ∀ k w, (Instr.index 9 (.string s) (.int k (p : Int))).run Try.prog w = .ok (.int .u8 ((s[p].toNat : Nat) : Int)) w := fun k w => by
        rw [run_index_string (P := Try.prog) w 9 s k (p : Int) Try.underlying9, dif_pos ⟨by omega, by omega⟩]
        rfl
      have hx : 0 ≤ ((s[p].toNat : Nat) : Int) ∧ ((s[p].toNat : Nat) : Int) ≤ 255 := by have := s[p].toNat_lt; omega
      generalize ((s[p].toNat : Nat) : Int) = x at hb hi9 hx
      have HL := Lib.hid hl
      have HX := Lib.hid hb
      clear hl hb
      by_cases hd : lab x
      · have HD := Lib.hid hd
        unfold lab at hd
        rcases hd with hd | ⟨hd, hd'⟩ | ⟨hd, hd'⟩
        · subst hd
          go_wp2
          go_roundw
          case rel => exact ⟨p + 1, by omega, by go_num, fun j hj => by
            by_cases e : j = p
            · subst e
              exact ⟨_, HX.out, HD.out⟩
            · exact HL.out j (by omega), by first | rfl | trivial⟩
          case measure => simp [intOf]; omega
        all_goals
          have hne : (x == 95) = false := beq_eq_false_iff_ne.mpr (by omega)
          go_wp2
          go_roundw
          case rel => exact ⟨p + 1, by omega, by go_num, fun j hj => by
            by_cases e : j = p
            · subst e
              exact ⟨_, HX.out, HD.out⟩
            · exact HL.out j (by omega), by first | rfl | trivial⟩
          case measure => simp [intOf]; omega
      · have HNO := Lib.hid (no_lab HX.out hd)
        unfold lab at hd
        have hne : (x == 95) = false := beq_eq_false_iff_ne.mpr (by omega)
        rcases (by omega : x < 48 ∨ (58 ≤ x ∧ x ≤ 94) ∨ x = 96 ∨ 123 ≤ x) with hc1 | ⟨hc1, hc2⟩ | hc1 | hc1
        all_goals
          clear hd
          go_wp2
          go_ret
          exact ⟨by rw [HNO.out]; rfl, rfl⟩
    · obtain rfl : p = s.size := by omega
      have ha := all_lab hl
      clear hl
      by_cases c1 : 1 ≤ s.size
      · by_cases c2 : s.size ≤ 12
        · have HA := Lib.hid (show Lab s = true by rw [ha]; simp [c1, c2])
          have c1' : decide (1 ≤ (s.size : Int)) = true := decide_eq_true (by omega)
          have c2' : decide ((s.size : Int) ≤ 12) = true := decide_eq_true (by omega)
          clear ha
          go_wp2
          go_ret
          exact ⟨by rw [HA.out]; rfl, rfl⟩
        · have HA := Lib.hid (show Lab s = false by rw [ha]; simp [c2])
          have c1' : decide (1 ≤ (s.size : Int)) = true := decide_eq_true (by omega)
          have c2' : decide ((s.size : Int) ≤ 12) = false := decide_eq_false (by omega)
          clear ha
          go_wp2
          go_ret
          exact ⟨by rw [HA.out]; rfl, rfl⟩
      · have HA := Lib.hid (show Lab s = false by rw [ha]; simp [c1])
        have c1' : decide (1 ≤ (s.size : Int)) = false := decide_eq_false (by omega)
        clear ha
        go_wp2
        go_ret
        exact ⟨by rw [HA.out]; rfl, rfl⟩
end Go.Proofs.Ytlaolclepmbdjaa.Label
