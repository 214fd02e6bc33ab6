/- Parse answers the date whose text it is, of any text; or that there is none. No condition. -/
import Derived.Test.YtobhjkephinhiacRefParse
namespace Go.Proofs.Ytobhjkephinhiac.CivilReadsW
open Go.RowKit Go.Proofs.Ytobhjkephinhiac.Bk Go.Proofs.Ytobhjkephinhiac.Rw Go.Proofs.Ytobhjkephinhiac.Ow Go.Proofs.Ytobhjkephinhiac.Kp Go.Proofs.Ytobhjkephinhiac.Str Go.Proofs.Ytobhjkephinhiac.Civil

theorem digs_dval (l : List Int) (h : ∀ x ∈ l, isd x) : ∀ k, k ≤ l.length → digs (dval (l.take k)) k = l.take k
  | 0, _ => by simp [digs]
  | k + 1, hk => by
    have hx : l[k]? = some l[k] := List.getElem?_eq_getElem (by omega)
    have hd := h l[k] (List.getElem_mem _)
    unfold isd at hd
    have ih := digs_dval l h k (by omega)
    rw [take_next hx]
    unfold digs
    rw [show (10 * dval (l.take k) + (l[k] - 48)) / 10 = dval (l.take k) by omega, show (10 * dval (l.take k) + (l[k] - 48)) % 10 = l[k] - 48 by omega, ih, List.take_add_one, hx, show (48 : Int) + (l[k] - 48) = l[k] by omega]
    rfl
theorem str_bl (s : ByteArray) : str (bl s) = s := by
  apply ByteArray.ext
  unfold str bl
  rw [str_data, List.map_map, show ((fun n : Int => UInt8.ofNat n.toNat) ∘ fun b : UInt8 => ((b.toNat : Nat) : Int)) = id by funext b; simp]
  simp
theorem text_back {s : ByteArray} (h : pk s) : str (tx (n0 s 10) (n1 s 10) (n2 s 10)) = s := by
  have hl := bl_length s
  have h10 := h.1
  have hdig : ∀ j, j < 10 → j ≠ 4 ∧ j ≠ 7 → ∃ x, (bl s)[j]? = some x ∧ isd x := fun j hj hn => (h.2.1 j hj).2 hn
  have hA : ∀ x ∈ pA s, isd x := fun x hx => by
    obtain ⟨k, hk, he⟩ := List.getElem_of_mem hx
    unfold pA at hk he
    rw [List.length_take] at hk
    obtain ⟨y, h1, h2⟩ := hdig k (by omega) (by omega)
    rw [List.getElem_take] at he
    rw [List.getElem?_eq_getElem (by omega), he] at h1
    injection h1 with h1
    rwa [h1]
  have hB : ∀ x ∈ pB s, isd x := fun x hx => by
    obtain ⟨k, hk, he⟩ := List.getElem_of_mem hx
    unfold pB at hk he
    rw [List.length_take, List.length_drop] at hk
    obtain ⟨y, h1, h2⟩ := hdig (5 + k) (by omega) (by omega)
    rw [List.getElem_take, List.getElem_drop] at he
    rw [List.getElem?_eq_getElem (by omega), he] at h1
    injection h1 with h1
    rwa [h1]
  have hC : ∀ x ∈ pC s, isd x := fun x hx => by
    obtain ⟨k, hk, he⟩ := List.getElem_of_mem hx
    unfold pC at hk he
    rw [List.length_take, List.length_drop] at hk
    obtain ⟨y, h1, h2⟩ := hdig (8 + k) (by omega) (by omega)
    rw [List.getElem_take, List.getElem_drop] at he
    rw [List.getElem?_eq_getElem (by omega), he] at h1
    injection h1 with h1
    rwa [h1]
  have lA : (pA s).length = 4 := by unfold pA; rw [List.length_take]; omega
  have lB : (pB s).length = 2 := by unfold pB; rw [List.length_take, List.length_drop]; omega
  have lC : (pC s).length = 2 := by unfold pC; rw [List.length_take, List.length_drop]; omega
  have eA := digs_dval (pA s) hA 4 (by omega)
  have eB := digs_dval (pB s) hB 2 (by omega)
  have eC := digs_dval (pC s) hC 2 (by omega)
  rw [List.take_of_length_le (by omega)] at eA eB eC
  unfold tx
  rw [n0_eq, n1_eq, n2_eq, eA, eB, eC]
  have h4 := (h.2.1 4 (by omega)).1 (.inl rfl)
  have h7 := (h.2.1 7 (by omega)).1 (.inr rfl)
  have e : pA s ++ [45] ++ pB s ++ [45] ++ pC s = bl s := by
    apply List.ext_getElem?
    intro j
    rcases (by omega : j < 4 ∨ j = 4 ∨ (5 ≤ j ∧ j < 7) ∨ j = 7 ∨ (8 ≤ j ∧ j < 10) ∨ 10 ≤ j) with h1 | h1 | h1 | h1 | h1 | h1
    · rw [List.getElem?_append_left (by simp; omega), List.getElem?_append_left (by simp; omega), List.getElem?_append_left (by simp; omega), List.getElem?_append_left (by omega)]
      unfold pA
      rw [List.getElem?_take, if_pos h1]
    · subst h1
      rw [List.getElem?_append_left (by simp; omega), List.getElem?_append_left (by simp; omega), List.getElem?_append_left (by simp; omega), List.getElem?_append_right (by omega), lA, h4]
      rfl
    · rw [List.getElem?_append_left (by simp; omega), List.getElem?_append_left (by simp; omega), List.getElem?_append_right (by simp; omega)]
      unfold pB
      rw [List.getElem?_take, if_pos (by simp; omega), List.getElem?_drop]
      congr 1
      simp
      omega
    · subst h1
      rw [List.getElem?_append_left (by simp; omega), List.getElem?_append_right (by simp; omega), h7]
      simp [lA, lB]
    · rw [List.getElem?_append_right (by simp; omega)]
      unfold pC
      rw [List.getElem?_take, if_pos (by simp; omega), List.getElem?_drop]
      congr 1
      simp
      omega
    · rw [List.getElem?_eq_none (by simp; omega), List.getElem?_eq_none (by omega)]
  rw [e]
  exact str_bl s

set_option maxRecDepth 100000 in
set_option maxHeartbeats 2000000 in
set_option linter.unusedVariables false in
theorem walk (a0 : ByteArray) (W : World) (w0 : a0.size ≤ 140737488351232) :
    Calls Try.prog 3 #[.string a0] W fun e w' => e = .returned (.bool true) ∧ Below W.heap.size W w' := by
  go_enter Try.func3, Try.ntmps3
  go_wp2_with fail
  refine (alive_ok _).mono ?_
  rintro e w1 ⟨rfl, hb⟩
  have HW := Lib.hid hb
  clear hb
  by_cases hl : (1000 : Int) < a0.size
  · go_wp2_with fail
    go_ret
    exact ⟨rfl, HW.out⟩
  by_cases hpk : pk a0
  · have HP := Lib.hid (fun w => (parse_ok a0 w).mono (R' := fun e w' => e = .returned (.tuple #[date (n0 a0 10) (n1 a0 10) (n2 a0 10), .bool true]) ∧ Below w.heap.size w w') (fun e w' h => ⟨h.1.elim (fun h => h.2) (fun h => absurd hpk h.1), h.2⟩))
    have HR := Lib.hid (fun w => (rparse_ok a0 w).mono (R' := fun e w' => e = .returned (.tuple #[date (n0 a0 10) (n1 a0 10) (n2 a0 10), .bool true]) ∧ Below w.heap.size w w') (fun e w' h => ⟨h.1.elim (fun h => h.2) (fun h => absurd hpk h.1), h.2⟩))
    have HT := Lib.hid (fun w => text_ok (n0 a0 10) (n1 a0 10) (n2 a0 10) w hpk.2.2)
    rw [text_back hpk] at HT
    unfold date at HP HR HT
    clear hpk
    generalize n0 a0 10 = x at HP HR HT
    generalize n1 a0 10 = y at HP HR HT
    generalize n2 a0 10 = z at HP HR HT
    go_wp2_with fail
    refine (HP.out _).mono ?_
    rintro e w2 ⟨rfl, hb⟩
    have HB2 := Lib.hid (HW.out.trans (hb.mono HW.out.size))
    clear hb
    go_wp2_with fail
    refine (HR.out _).mono ?_
    rintro e w3 ⟨rfl, hb⟩
    have HBK := Lib.hid ((Blk.new w2 24 #[.int .i64 x, .int .i64 y, .int .i64 z]).keeps hb)
    have HB3 := Lib.hid (show Below W.heap.size W w3 from (HB2.out.alloc HB2.out.size _).trans (hb.mono (by have := HB2.out.size; simp; omega)))
    clear hb HB2
    have c0 : ∀ o, (w3.alloc o).cell? ⟨w2.heap.size, 0, none⟩ = some (.int .i64 x) := fun o => (HBK.out.alloc o).cell 0
    have c1 : ∀ o, (w3.alloc o).cell? ⟨w2.heap.size, 1, none⟩ = some (.int .i64 y) := fun o => (HBK.out.alloc o).cell 1
    have c2 : ∀ o, (w3.alloc o).cell? ⟨w2.heap.size, 2, none⟩ = some (.int .i64 z) := fun o => (HBK.out.alloc o).cell 2
    go_wp2_with (go_at_call 11; with_reducible refine Calls.mono (HT.out _) ?_; rintro e w4 ⟨rfl, hb⟩; have HB4 := Lib.hid (show Below W.heap.size W w4 from (HB3.out.alloc HB3.out.size _).trans (hb.mono (by have := HB3.out.size; simp; omega))); clear hb)
    go_ret
    exact ⟨rfl, HB4.out⟩
  · have HP := Lib.hid (fun w => (parse_ok a0 w).mono (R' := fun e w' => e = .returned (.tuple #[date 0 0 0, .bool false]) ∧ Below w.heap.size w w') (fun e w' h => ⟨h.1.elim (fun h => absurd h.1 hpk) (fun h => h.2), h.2⟩))
    have HR := Lib.hid (fun w => (rparse_ok a0 w).mono (R' := fun e w' => e = .returned (.tuple #[date 0 0 0, .bool false]) ∧ Below w.heap.size w w') (fun e w' h => ⟨h.1.elim (fun h => absurd h.1 hpk) (fun h => h.2), h.2⟩))
    unfold date at HP HR
    clear hpk
    go_wp2_with fail
    refine (HP.out _).mono ?_
    rintro e w2 ⟨rfl, hb⟩
    have HB2 := Lib.hid (HW.out.trans (hb.mono HW.out.size))
    clear hb
    go_wp2_with fail
    refine (HR.out _).mono ?_
    rintro e w3 ⟨rfl, hb⟩
    have HBK := Lib.hid ((Blk.new w2 24 #[.int .i64 0, .int .i64 0, .int .i64 0]).keeps hb)
    have HB3 := Lib.hid (show Below W.heap.size W w3 from (HB2.out.alloc HB2.out.size _).trans (hb.mono (by have := HB2.out.size; simp; omega)))
    clear hb HB2
    have c0 : ∀ o, (w3.alloc o).cell? ⟨w2.heap.size, 0, none⟩ = some (.int .i64 0) := fun o => (HBK.out.alloc o).cell 0
    have c1 : ∀ o, (w3.alloc o).cell? ⟨w2.heap.size, 1, none⟩ = some (.int .i64 0) := fun o => (HBK.out.alloc o).cell 1
    have c2 : ∀ o, (w3.alloc o).cell? ⟨w2.heap.size, 2, none⟩ = some (.int .i64 0) := fun o => (HBK.out.alloc o).cell 2
    go_wp2_with fail
    go_ret
    exact ⟨rfl, HB3.out.alloc HB3.out.size _⟩
end Go.Proofs.Ytobhjkephinhiac.CivilReadsW
