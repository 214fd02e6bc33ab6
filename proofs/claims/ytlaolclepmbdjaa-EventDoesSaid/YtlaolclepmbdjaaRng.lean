/- Ranges over a text: what the walk meets, rune by rune; a text's bytes. -/
import Derived.Laws.RangeAny
import Derived.Test.YtlaolclepmbdjaaKp
namespace Go.Proofs.Ytlaolclepmbdjaa.Rng
open Go.RowKit Go.Proofs.Ytlaolclepmbdjaa.Bk Go.Proofs.Ytlaolclepmbdjaa.Kp
/-- The world, with another object at block b. -/
def setO (w : World) (b : Nat) (o : Obj) : World := { w with heap := w.heap.setIfInBounds b o }
theorem setO_self (w : World) (b : Nat) (o : Obj) (h : b < w.heap.size) : (setO w b o).heap[b]? = some o := by
  unfold setO
  rw [Array.getElem?_setIfInBounds_self_of_lt h]
theorem setO_kp (w : World) (b : Nat) (o : Obj) : Kp (· = b) w (setO w b o) :=
  ⟨rfl, rfl, rfl, by unfold setO; simp, fun k _ hk => by unfold setO; rw [Array.getElem?_setIfInBounds_ne (fun e => hk e.symm)]⟩
theorem next_some {P : Program} (w : World) (b : Nat) (s : ByteArray) (pos : Nat) (ty : TypeId) (hb : w.heap[b]? = some (.stringIter s pos)) (h : pos < s.size) :
    (Instr.next (.pointer (some ⟨b, 0, none⟩)) true ty).run P w = .ok (.tuple #[.bool true, .int .i64 pos, .int .i32 (Utf8.decode s pos).1]) (setO w b (.stringIter s (pos + (Utf8.decode s pos).2))) := by
  simp only [Instr.next, getObj, setObj, Sem.run_bind, Sem.run, hb, Result.andThen, h, if_true]
  simp [goInt, setO]
theorem next_none {P : Program} (w : World) (b : Nat) (s : ByteArray) (pos : Nat) (ty : TypeId) (hb : w.heap[b]? = some (.stringIter s pos)) (h : ¬ pos < s.size) :
    (Instr.next (.pointer (some ⟨b, 0, none⟩)) true ty).run P w = .ok (.tuple #[.bool false]) w := by
  simp [Instr.next, getObj, Sem.run, hb, h]

/-- A text's bytes. -/
def bl (s : ByteArray) : List Int := s.data.toList.map (fun b => ((b.toNat : Nat) : Int))
theorem bl_length (s : ByteArray) : (bl s).length = s.size := by unfold bl; rw [List.length_map, Array.length_toList]; rfl
/-- What comes next, as_ a rune and as_ a byte. -/
theorem dec_spec (s : ByteArray) (p : Nat) (h : p < s.size) : ∃ c k : Nat, Utf8.decode s p = (c, k) ∧ c ≤ 2147483647 ∧ ((c < 128 ∧ k = 1 ∧ (bl s)[p]? = some (c : Int)) ∨ (128 ≤ c ∧ ∃ x, (bl s)[p]? = some x ∧ 128 ≤ x)) := by
  have hb : (bl s)[p]? = some ((s[p].toNat : Nat) : Int) := by
    unfold bl
    rw [List.getElem?_map, Array.getElem?_toList]
    show Option.map _ (s.data[p]?) = _
    rw [Array.getElem?_eq_getElem (show p < s.data.size from h)]
    rfl
  by_cases hx : s[p].toNat < 128
  · exact ⟨_, _, decode_ascii s p h hx, by omega, .inl ⟨hx, rfl, hb⟩⟩
  · refine ⟨(Utf8.decode s p).1, (Utf8.decode s p).2, rfl, decode_le s p, .inr ⟨(decode_high s p h (by omega)).1, _, hb, by omega⟩⟩

theorem byte_at (s : ByteArray) (i : Nat) (h : i < s.size) : (bl s)[i]? = some ((s[i].toNat : Nat) : Int) := by
  unfold bl
  rw [List.getElem?_map, Array.getElem?_toList]
  show Option.map _ (s.data[i]?) = _
  rw [Array.getElem?_eq_getElem (show i < s.data.size from h)]
  rfl
end Go.Proofs.Ytlaolclepmbdjaa.Rng
