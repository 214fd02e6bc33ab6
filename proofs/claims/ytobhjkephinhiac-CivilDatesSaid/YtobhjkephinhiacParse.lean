/- The walk of Parse, over whatever text. -/
import Derived.Test.YtobhjkephinhiacText
import Derived.Laws.RangeAny
namespace Go.Proofs.Ytobhjkephinhiac.Civil
open Go.RowKit Go.Proofs.Ytobhjkephinhiac.Bk Go.Proofs.Ytobhjkephinhiac.Rw Go.Proofs.Ytobhjkephinhiac.Ow Go.Proofs.Ytobhjkephinhiac.Kp Go.Proofs.Ytobhjkephinhiac.Str

/-- The world, with another object at block b. -/
def setO (w : World) (b : Nat) (o : Obj) : World := { w with heap := w.heap.setIfInBounds b o }
theorem setO_self (w : World) (b : Nat) (o : Obj) (h : b < w.heap.size) : (setO w b o).heap[b]? = some o := by
  unfold setO
  rw [Array.getElem?_setIfInBounds_self_of_lt h]
theorem setO_kp (w : World) (b : Nat) (o : Obj) : Kp (· = b) w (setO w b o) :=
  ⟨rfl, rfl, rfl, by unfold setO; simp, fun k _ hk => by unfold setO; rw [Array.getElem?_setIfInBounds_ne (fun e => hk e.symm)]⟩
theorem next_some {P : Program} (w : World) (b : Nat) (s : ByteArray) (pos : Nat) (ty : TypeId) (hb : w.heap[b]? = some (.stringIter s pos)) (h : pos < s.size) :
    (Instr.next (.pointer (some ⟨b, 0, none⟩)) true ty).run P w = .ok (.tuple #[.bool true, .int .i64 pos, .int .i32 (Utf8.decode s pos).1]) (setO w b (.stringIter s (pos + (Utf8.decode s pos).2))) := by
  simp only [Instr.next, getObj, setObj, Sem.run_bind, Sem.run, hb, Result.andThen, h, if_true]
  simp [goInt, setO]
theorem next_none {P : Program} (w : World) (b : Nat) (s : ByteArray) (pos : Nat) (ty : TypeId) (hb : w.heap[b]? = some (.stringIter s pos)) (h : ¬ pos < s.size) :
    (Instr.next (.pointer (some ⟨b, 0, none⟩)) true ty).run P w = .ok (.tuple #[.bool false]) w := by
  simp [Instr.next, getObj, Sem.run, hb, h]

/-- A text's bytes. -/
def bl (s : ByteArray) : List Int := s.data.toList.map (fun b => ((b.toNat : Nat) : Int))
theorem bl_length (s : ByteArray) : (bl s).length = s.size := by unfold bl; rw [List.length_map, Array.length_toList]; rfl
def dval (l : List Int) : Int := l.foldl (fun n x => 10 * n + (x - 48)) 0
def isd (x : Int) : Prop := 48 ≤ x ∧ x ≤ 57
/-- What stands at place j as_ it ought to. -/
def fits (s : ByteArray) (p : Nat) : Prop := ∀ j, j < p → (j = 4 ∨ j = 7 → (bl s)[j]? = some 45) ∧ (j ≠ 4 ∧ j ≠ 7 → ∃ x, (bl s)[j]? = some x ∧ isd x)

def n0 (s : ByteArray) (p : Nat) : Int := dval ((bl s).take (min p 4))
def n1 (s : ByteArray) (p : Nat) : Int := dval (((bl s).drop 5).take (min (p - 5) 2))
def n2 (s : ByteArray) (p : Nat) : Int := dval (((bl s).drop 8).take (min (p - 8) 2))
theorem dval_snoc (l : List Int) (x : Int) : dval (l ++ [x]) = 10 * dval l + (x - 48) := by simp [dval]
theorem take_next {l : List Int} {k : Nat} {x : Int} (h : l[k]? = some x) : dval (l.take (k + 1)) = 10 * dval (l.take k) + (x - 48) := by
  rw [List.take_add_one, h]
  exact dval_snoc _ _
theorem dval_bd (l : List Int) (h : ∀ k, k < l.length → ∃ x, l[k]? = some x ∧ isd x) : ∀ k, k ≤ l.length → 0 ≤ dval (l.take k) ∧ dval (l.take k) < 10 ^ k
  | 0, _ => by simp [dval]
  | k + 1, hk => by
    obtain ⟨x, hx, h0, h1⟩ := h k (by omega)
    have ih := dval_bd l h k (by omega)
    rw [take_next hx, Int.pow_succ]
    omega
theorem fits_len {s : ByteArray} {p : Nat} (h : fits s p) : p ≤ s.size ∨ p = 0 := by
  rcases Nat.eq_zero_or_pos p with h0 | h0
  · exact .inr h0
  · left
    have := h (p - 1) (by omega)
    by_cases hj : p - 1 = 4 ∨ p - 1 = 7
    · have h1 := (List.getElem?_eq_some_iff.1 (this.1 hj)).1
      rw [bl_length] at h1
      omega
    · obtain ⟨x, h1, _⟩ := this.2 (by omega)
      have h1 := (List.getElem?_eq_some_iff.1 h1).1
      rw [bl_length] at h1
      omega
/-- A part of digits alone. -/
theorem part_bd {s : ByteArray} {p : Nat} (h : fits s p) (a k : Nat) (hk : a + k ≤ p) (hno : ∀ j, a ≤ j → j < a + k → j ≠ 4 ∧ j ≠ 7) : 0 ≤ dval (((bl s).drop a).take k) ∧ dval (((bl s).drop a).take k) < 10 ^ k := by
  have hl := fits_len h
  have hbl := bl_length s
  have := dval_bd (((bl s).drop a).take k) (fun j hj => by
    rw [List.length_take, List.length_drop] at hj
    obtain ⟨x, hx, hd⟩ := (h (a + j) (by omega)).2 (hno _ (by omega) (by omega))
    exact ⟨x, by rw [List.getElem?_take, if_pos (by omega), List.getElem?_drop]; exact hx, hd⟩) k (by rw [List.length_take, List.length_drop]; omega)
  rwa [List.take_take, Nat.min_self] at this
theorem n0_bd {s : ByteArray} {p : Nat} (h : fits s p) : 0 ≤ n0 s p ∧ n0 s p ≤ 9999 := by
  have h1 := part_bd h 0 (min p 4) (by omega) (fun j _ hj => by omega)
  have h2 : ∀ k : Fin 5, (10 : Int) ^ (k : Nat) ≤ 10000 := by decide
  have h3 := h2 ⟨min p 4, by omega⟩
  rw [List.drop_zero] at h1
  unfold n0
  simp only at h3
  omega
theorem n1_bd {s : ByteArray} {p : Nat} (h : fits s p) : 0 ≤ n1 s p ∧ n1 s p ≤ 99 := by
  by_cases hp : p < 5
  · unfold n1
    rw [show min (p - 5) 2 = 0 by omega]
    simp [dval]
  have h1 := part_bd h 5 (min (p - 5) 2) (by omega) (fun j _ hj => by omega)
  have h2 : ∀ k : Fin 3, (10 : Int) ^ (k : Nat) ≤ 100 := by decide
  have h3 := h2 ⟨min (p - 5) 2, by omega⟩
  unfold n1
  simp only at h3
  omega
theorem n2_bd {s : ByteArray} {p : Nat} (h : fits s p) : 0 ≤ n2 s p ∧ n2 s p ≤ 99 := by
  by_cases hp : p < 8
  · unfold n2
    rw [show min (p - 8) 2 = 0 by omega]
    simp [dval]
  have h1 := part_bd h 8 (min (p - 8) 2) (by omega) (fun j _ hj => by omega)
  have h2 : ∀ k : Fin 3, (10 : Int) ^ (k : Nat) ≤ 100 := by decide
  have h3 := h2 ⟨min (p - 8) 2, by omega⟩
  unfold n2
  simp only at h3
  omega
/-- What comes next, as_ a rune and as_ a byte. -/
theorem dec_spec (s : ByteArray) (p : Nat) (h : p < s.size) : ∃ c k : Nat, Utf8.decode s p = (c, k) ∧ c ≤ 2147483647 ∧ ((c < 128 ∧ k = 1 ∧ (bl s)[p]? = some (c : Int)) ∨ (128 ≤ c ∧ ∃ x, (bl s)[p]? = some x ∧ 128 ≤ x)) := by
  have hb : (bl s)[p]? = some ((s[p].toNat : Nat) : Int) := by
    unfold bl
    rw [List.getElem?_map, Array.getElem?_toList]
    show Option.map _ (s.data[p]?) = _
    rw [Array.getElem?_eq_getElem (show p < s.data.size from h)]
    rfl
  by_cases hx : s[p].toNat < 128
  · exact ⟨_, _, decode_ascii s p h hx, by omega, .inl ⟨hx, rfl, hb⟩⟩
  · refine ⟨(Utf8.decode s p).1, (Utf8.decode s p).2, rfl, decode_le s p, .inr ⟨(decode_high s p h (by omega)).1, _, hb, by omega⟩⟩

def pk (s : ByteArray) : Prop := s.size = 10 ∧ fits s 10 ∧ gd (n0 s 10) (n1 s 10) (n2 s 10) = true
theorem not_fits {s : ByteArray} {p : Nat} (hp : p < 10) (h : ¬ fits s (p + 1)) : ¬ pk s := fun hpk => h (fun j hj => hpk.2.1 j (by omega))
theorem fits_dash {s : ByteArray} {p : Nat} (h : fits s p) (hp : p = 4 ∨ p = 7) (hx : (bl s)[p]? = some 45) : fits s (p + 1) := fun j hj => by
  by_cases e : j = p
  · subst e
    exact ⟨fun _ => hx, fun hn => by omega⟩
  · exact h j (by omega)
theorem fits_digit {s : ByteArray} {p : Nat} (h : fits s p) (hp : p ≠ 4 ∧ p ≠ 7) {x : Int} (hx : (bl s)[p]? = some x) (hd : isd x) : fits s (p + 1) := fun j hj => by
  by_cases e : j = p
  · subst e
    exact ⟨fun hn => by omega, fun _ => ⟨x, hx, hd⟩⟩
  · exact h j (by omega)
end Go.Proofs.Ytobhjkephinhiac.Civil
