/- Rows that came in, as lists. -/
import Derived.Test.YtjkngcpmcmffmaaLf
import Derived.Test.YtjkngcpmcmffmaaOw
namespace Go.Proofs.Ytjkngcpmcmffmaa.In
open Go.RowKit Go.Proofs.Ytjkngcpmcmffmaa.Rw Go.Proofs.Ytjkngcpmcmffmaa.Ow
def Bytes (l : List Int) : Prop := ∀ x ∈ l, 0 ≤ x ∧ x ≤ 255
/-- An argument's bytes. -/
theorem row_bytes {w : World} {A : Option Addr} {len cap : Nat} {z : List Int} (h : Lf.IsRow .u8 w A len cap z) : ∃ l, len = l.length ∧ l.length ≤ cap ∧ cap ≤ maxLen ∧ Ri .u8 w A l ∧ Bytes l := by
  rcases h with ⟨rfl, rfl, rfl, rfl⟩ | ⟨x, rfl, h1, h2, h3, h4, h5⟩
  · exact ⟨[], rfl, Nat.le_refl _, by unfold maxLen; omega, Ri.nil, fun x hx => by simp at hx⟩
  · have hl : (z.take len).length = len := by rw [List.length_take]; omega
    refine ⟨z.take len, hl.symm, by omega, h2, ⟨by omega, fun h0 => ⟨x, rfl, ?_, fun j y hy => ?_⟩⟩, fun y hy => ?_⟩
    · have := World.block_lt_of_cell? w _ (h4 0 (by omega))
      rwa [block_of_add] at this
    · rw [List.getElem?_take] at hy
      split at hy
      · have hj : j < z.length := (List.getElem?_eq_some_iff.1 hy).1
        rw [h4 j hj, List.getD_eq_getElem?_getD, hy]
        rfl
      · cases hy
    · have := h5 y (List.mem_of_mem_take hy)
      simp [Lit.wf, IntKind.min, IntKind.max, IntKind.bits, IntKind.signed] at this
      omega

/-- A row of whole numbers that came in. -/
theorem row_ints {k : IntKind} {w : World} {A : Option Addr} {len cap : Nat} {z : List Int} (h : Lf.IsRow k w A len cap z) : ∃ l, len = l.length ∧ l.length ≤ cap ∧ cap ≤ maxLen ∧ Ri k w A l ∧ ∀ x ∈ l, (Lit.int k x).wf = true := by
  rcases h with ⟨rfl, rfl, rfl, rfl⟩ | ⟨x, rfl, h1, h2, h3, h4, h5⟩
  · exact ⟨[], rfl, Nat.le_refl _, by unfold maxLen; omega, Ri.nil, fun x hx => by simp at hx⟩
  · have hl : (z.take len).length = len := by rw [List.length_take]; omega
    refine ⟨z.take len, hl.symm, by omega, h2, ⟨by omega, fun h0 => ⟨x, rfl, ?_, fun j y hy => ?_⟩⟩, fun y hy => h5 y (List.mem_of_mem_take hy)⟩
    · have := World.block_lt_of_cell? w _ (h4 0 (by omega))
      rwa [block_of_add] at this
    · rw [List.getElem?_take] at hy
      split at hy
      · have hj : j < z.length := (List.getElem?_eq_some_iff.1 hy).1
        rw [h4 j hj, List.getD_eq_getElem?_getD, hy]
        rfl
      · cases hy

end Go.Proofs.Ytjkngcpmcmffmaa.In
