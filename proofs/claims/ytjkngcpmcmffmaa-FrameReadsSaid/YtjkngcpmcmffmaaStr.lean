/- string(b) of a slice of bytes that reads as a list; two such strings are equal just if the lists are. -/
import Derived.Test.YtjkngcpmcmffmaaOw
import Derived.Laws.BytesString
import Derived.Laws.Cells
namespace Go.Proofs.Ytjkngcpmcmffmaa.Str
open Go.RowKit Go.Proofs.Ytjkngcpmcmffmaa.Ow Go.Proofs.Ytjkngcpmcmffmaa.Rw

/-- The string of bytes. -/
def str (l : List Int) : ByteArray := l.foldl (fun r n => r.push (UInt8.ofNat n.toNat)) ByteArray.empty

theorem str_data (l : List Int) : ∀ r : ByteArray, (l.foldl (fun r n => r.push (UInt8.ofNat n.toNat)) r).data = r.data ++ (l.map (fun n => UInt8.ofNat n.toNat)).toArray := by
  induction l with
  | nil => intro r; simp
  | cons x l ih => intro r; rw [List.foldl_cons, ih]; simp [ByteArray.push]
theorem str_inj {l m : List Int} (hl : ∀ x ∈ l, 0 ≤ x ∧ x ≤ 255) (hm : ∀ x ∈ m, 0 ≤ x ∧ x ≤ 255) (h : str l = str m) : l = m := by
  have h1 := congrArg ByteArray.data h
  unfold str at h1
  rw [str_data, str_data] at h1
  have h2 : l.map (fun n => UInt8.ofNat n.toNat) = m.map (fun n => UInt8.ofNat n.toNat) := by simpa using h1
  clear h1 h
  induction l generalizing m with
  | nil => cases m with
    | nil => rfl
    | cons y m => simp at h2
  | cons x l ih => cases m with
    | nil => simp at h2
    | cons y m =>
      simp only [List.map_cons, List.cons.injEq] at h2
      have hx := hl x (by simp)
      have hy := hm y (by simp)
      have h3 := congrArg UInt8.toNat h2.1
      rw [UInt8.toNat_ofNat', UInt8.toNat_ofNat'] at h3
      have : x = y := by omega
      rw [this, ih (fun z hz => hl z (by simp [hz])) (fun z hz => hm z (by simp [hz])) h2.2]
theorem str_ok {P : Program} (w : World) (src dst e : TypeId) (hs : P.underlying src = some (.slice e)) (he : P.underlying e = some (.int .u8)) (hd : P.underlying dst = some .string) (A : Option Addr) (l : List Int) (c : Nat) (h : Ri .u8 w A l) :
    (convert src dst (.slice A l.length c)).run P w = .ok (.string (str l)) w := by
  rw [run_convert_bytes_string w src dst e A l.length c hs he hd]
  rcases A with _ | ad
  · have : l = [] := by
      rcases l with _ | ⟨x, l⟩
      · rfl
      · obtain ⟨ad, h1, _⟩ := h.2 (by simp)
        cases h1
    subst this
    simp only [Conv.bytesToString, Sem.run_pure]
    rfl
  · refine run_bytesToString w ad l.length c l ?_
    have h1 := run_loadCells_list (P := P) (w := w) ad (l.map (Value.int .u8)) (fun j v hj => by
      rw [List.getElem?_map] at hj
      obtain ⟨x, hx, rfl⟩ := Option.map_eq_some_iff.1 hj
      obtain ⟨ad', he, _, hc⟩ := h.2 (by have := (List.getElem?_eq_some_iff.1 hx).1; omega)
      injection he with he
      subst he
      exact hc j x hx)
    rw [List.length_map] at h1
    exact h1
end Go.Proofs.Ytjkngcpmcmffmaa.Str
