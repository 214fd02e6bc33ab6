/- Arguments opened whatever their shape: whole numbers, bools, strings, structs of such (structs in structs too), slices of any of these. For the rows of our laws. -/
import Derived.ProofKit
import Derived.Deep.Slices
import Derived.Below
import Derived.SizedLaws
import Derived.OpenShut
namespace Go.Proofs.Ytjkngcpmcmffmaa.Lf
open Go.ChangeShapes Go.WideShapes Go.Deep Go.RowKit

/-- What one cell is. -/
inductive LK | i (k : IntKind) | b | s
def LK.ok : LK → Value → Prop
  | .i k, v => ∃ n, v = .int k n ∧ (Lit.int k n).wf = true
  | .b, v => ∃ x, v = .bool x
  | .s, v => ∃ x : ByteArray, v = .string x ∧ x.size ≤ maxLen

/-- Cells, one by one. -/
def Lks : List LK → List Value → Prop
  | [], [] => True
  | k :: ks, v :: vs => k.ok v ∧ Lks ks vs
  | _, _ => False

theorem Lks.nil {l : List Value} (h : Lks [] l) : l = [] := by cases l with | nil => rfl | cons _ _ => exact h.elim
theorem Lks.cons {k : LK} {ks : List LK} {l : List Value} (h : Lks (k :: ks) l) : ∃ v vs, l = v :: vs ∧ k.ok v ∧ Lks ks vs := by
  cases l with
  | nil => exact h.elim
  | cons v vs => exact ⟨v, vs, rfl, h.1, h.2⟩
theorem Lks.len : ∀ {ks : List LK} {l : List Value}, Lks ks l → l.length = ks.length
  | [], [], _ => rfl
  | _ :: _, _ :: _, h => by simp [h.2.len]
  | [], _ :: _, h => h.elim
  | _ :: _, [], h => h.elim
theorem Lks.append : ∀ {ks js : List LK} {l m : List Value}, Lks ks l → Lks js m → Lks (ks ++ js) (l ++ m)
  | [], _, [], _, _, hm => hm
  | _ :: _, _, _ :: _, _, hl, hm => ⟨hl.1, Lks.append hl.2 hm⟩
  | [], _, _ :: _, _, hl, _ => hl.elim
  | _ :: _, _, [], _, hl, _ => hl.elim

/-- The fields' cells lie one behind the other. -/
def fieldsOf (P : Program) (sub : TypeId → Option (List LK)) (total : Nat) : List Field → Nat → Option (List LK)
  | [], off => if off = total then some [] else none
  | f :: fs, off =>
    if f.offset = off then
      match sub f.type with
      | some a => if a.length = P.cellsOf f.type then (fieldsOf P sub total fs (off + a.length)).map (a ++ ·) else none
      | none => none
    else none

/-- The cells of a type, if all of them are plain. -/
def leafs (P : Program) : Nat → TypeId → Option (List LK)
  | 0, _ => none
  | n + 1, t =>
    match P.underlying t with
    | some (.int k) => some [.i k]
    | some .bool => some [.b]
    | some .string => some [.s]
    | some (.struct fs) => fieldsOf P (leafs P n) (P.cellsOf t) fs.toList 0
    | _ => none

section
variable {H : Type} {enc : TypeId × Value → H} {P : Program} {w : World} {base : Nat} {spare : Nat → Bool} {held : Bool}

theorem fields_ok {sub : TypeId → Option (List LK)} {total : Nat} {cs : List Value} {fuel : Nat} (hcs : cs.length = total)
    (hsub : ∀ t ks cs x, sub t = some ks → DataW.trod enc P w base spare held fuel t cs = some x → Lks ks cs) :
    ∀ (fs : List Field) (off : Nat) (ks : List LK), fieldsOf P sub total fs off = some ks → (∀ f ∈ fs, ∃ x, DataW.trod enc P w base spare held fuel f.type ((cs.drop f.offset).take (P.cellsOf f.type)) = some x) → Lks ks (cs.drop off)
  | [], off, ks, h, _ => by
    unfold fieldsOf at h
    split at h
    · rename_i ho
      injection h with h
      subst h ho
      rw [List.drop_eq_nil_of_le (by omega)]
      trivial
    · cases h
  | f :: fs, off, ks, h, hf => by
    unfold fieldsOf at h
    split at h
    · rename_i ho
      subst ho
      split at h
      · rename_i a ha
        split at h
        · rename_i hl
          obtain ⟨b, hb, rfl⟩ := Option.map_eq_some_iff.1 h
          obtain ⟨x, hx⟩ := hf f (by simp)
          have h1 := hsub _ _ _ _ ha hx
          have h2 := fields_ok hcs hsub fs _ _ hb (fun g hg => hf g (by simp [hg]))
          have h3 : cs.drop f.offset = (cs.drop f.offset).take (P.cellsOf f.type) ++ cs.drop (f.offset + a.length) := by
            rw [hl, ← List.drop_drop, List.take_append_drop]
          rw [h3]
          exact h1.append h2
        · cases h
      · cases h
    · cases h

theorem leafs_ok : ∀ (n : Nat) (t : TypeId) (ks : List LK) (fuel : Nat) (cs : List Value) (x : DataW H × List MemPlace), leafs P n t = some ks → DataW.trod enc P w base spare held fuel t cs = some x → Lks ks cs
  | 0, _, _, _, _, _, h, _ => by cases h
  | n + 1, t, ks, fuel, cs, x, h, ht => by
    unfold leafs at h
    split at h
    · rename_i k hu
      injection h with h
      subst h
      obtain ⟨a, rfl, _, ha⟩ := DataW.trod_int hu ht
      exact ⟨⟨a, rfl, ha⟩, trivial⟩
    · rename_i hu
      injection h with h
      subst h
      obtain ⟨a, rfl, _⟩ := DataW.trod_bool hu ht
      exact ⟨⟨a, rfl⟩, trivial⟩
    · rename_i hu
      injection h with h
      subst h
      obtain ⟨a, rfl, _, ha⟩ := DataW.trod_string hu ht
      exact ⟨⟨a, rfl, ha⟩, trivial⟩
    · rename_i fs hu
      obtain ⟨xs, m, _, _, hl, hlen, hg⟩ := DataW.trod_struct hu ht
      have h2 := fields_ok (P := P) (w := w) (enc := enc) (base := base) (spare := spare) (held := held) (fuel := m) hl (fun t ks cs x h1 h2 => leafs_ok n t ks m cs x h1 h2) fs.toList 0 ks h (fun f hf => by
        obtain ⟨i, hi, he⟩ := List.mem_iff_getElem.1 hf
        have hi' : i < fs.size := by simpa using hi
        have h3 := hg i f (by rw [Array.getElem?_eq_getElem hi']; simpa using he)
        rw [List.getElem?_eq_getElem (by omega)] at h3
        exact ⟨_, h3⟩)
      simpa using h2
    · cases h

/-- An argument that is a struct, by value. -/
theorem open_struct {r : Reach} {b0 : Nat} {t : TypeId} {v : Value} {d : DataW H} {p : List MemPlace} {fs : Array Field} {ks : List LK} (hs : P.underlying t = some (.struct fs)) (n : Nat) (hk : leafs P n t = some ks)
    (hv : Value.okWide P w r b0 t v) (h : DataW.Trod enc P w base spare held t v d p) : ∃ l : List Value, v = .agg ⟨l⟩ ∧ Lks ks l := by
  obtain ⟨cs, rfl, _⟩ := okWide_struct hs hv
  obtain ⟨fuel, hf⟩ := h
  have h1 := leafs_ok n t ks fuel _ _ hk hf
  obtain ⟨l⟩ := cs
  exact ⟨l, rfl, by simpa [Value.cells] using h1⟩

/-- A slice's elements, as_ rows of plain cells. -/
def RowsAt (w : World) (ks : List LK) (A : Option Addr) (len : Nat) (vs : List (List Value)) : Prop :=
  vs.length = len ∧ (∀ c ∈ vs, Lks ks c) ∧ (0 < len → ∃ ad, A = some ad ∧ ad.block < w.heap.size ∧ ∀ i c, vs[i]? = some c → ∀ j u, c[j]? = some u → w.cell? (ad.add (i * ks.length + j)) = some u)

theorem open_rows {r : Reach} {b0 : Nat} {t e : TypeId} {v : Value} {d : DataW H} {p : List MemPlace} {ks : List LK} (hs : P.underlying t = some (.slice e)) (n : Nat) (hk : leafs P n e = some ks) (hc : P.cellsOf e = ks.length)
    (hv : Value.okWide P w r b0 t v) (h : DataW.Trod enc P w base spare held t v d p) (hlt : 0 < ks.length) :
    ∃ (A : Option Addr) (len cap : Nat) (vs : List (List Value)), v = .slice A len cap ∧ len ≤ cap ∧ cap ≤ maxLen ∧ RowsAt w ks A len vs := by
  obtain ⟨a0, len0, cap0, rfl⟩ := okWide_slice hs hv
  obtain ⟨fuel, hf⟩ := h
  rcases open_slice hs hf with ⟨hcs, _⟩ | ⟨a, len, cap, m, k, D, Pl, hcs, _, hl, hm, hmm, _, hx⟩
  · simp [Value.cells] at hcs
    obtain ⟨rfl, rfl, rfl⟩ := hcs
    exact ⟨none, 0, 0, [], rfl, Nat.le_refl _, by unfold maxLen; omega, rfl, by simp, fun h0 => by omega⟩
  · simp [Value.cells] at hcs
    obtain ⟨rfl, rfl, rfl⟩ := hcs
    have hml : len0 ≤ m := by rw [hmm]; split <;> omega
    obtain ⟨f, hfam⟩ := choose_lt (α := List Value) (n := len0) (p := fun i c => w.cells? base (a.add (i * P.cellsOf e)) (P.cellsOf e) = some c ∧ DataW.trod enc P w base spare held k e c = some (D i, Pl i)) (fun i hi => hx i (by omega))
    refine ⟨some a, len0, cap0, (List.range len0).map f, rfl, hl, hm, by simp, ?_, ?_⟩
    · intro c hcm
      obtain ⟨i, hi, rfl⟩ := List.mem_map.1 hcm
      exact leafs_ok n e ks k _ _ hk (hfam i (List.mem_range.1 hi)).2
    · intro h0
      have hcell : ∀ i c, ((List.range len0).map f)[i]? = some c → ∀ j u, c[j]? = some u → w.cell? (a.add (i * ks.length + j)) = some u := by
        intro i c hic j u hju
        rw [List.getElem?_map] at hic
        obtain ⟨i2, hi2, rfl⟩ := Option.map_eq_some_iff.1 hic
        have hil : i < len0 := by
          rcases Nat.lt_or_ge i len0 with hlt2 | hge
          · exact hlt2
          · rw [List.getElem?_eq_none (by simpa using hge)] at hi2; cases hi2
        rw [List.getElem?_range hil] at hi2
        injection hi2 with hi2
        subst hi2
        obtain ⟨_, hcl, hat⟩ := World.cells?_some (hfam i hil).1
        have hjl : j < (f i).length := (List.getElem?_eq_some_iff.1 hju).1
        have := hat j (by omega)
        rw [hc, Go.Deep.add_add] at this
        rw [this]
        exact hju
      refine ⟨a, rfl, ?_, hcell⟩
      have h1 := hcell 0 (f 0) (by simp [h0]) 0
      obtain ⟨_, hcl, _⟩ := World.cells?_some (hfam 0 h0).1
      have h2 := h1 _ (List.getElem?_eq_getElem (by omega))
      have h3 := World.block_lt_of_cell? w _ h2
      rwa [show (a.add (0 * ks.length + 0)).block = a.block by simp [Addr.add]] at h3

theorem RowsAt.below {w' : World} {ks : List LK} {A : Option Addr} {len : Nat} {vs : List (List Value)} (h : RowsAt w ks A len vs) (hb : Below w.heap.size w w') : RowsAt w' ks A len vs := by
  refine ⟨h.1, h.2.1, fun h0 => ?_⟩
  obtain ⟨ad, rfl, hlt, hc⟩ := h.2.2 h0
  refine ⟨ad, rfl, Nat.lt_of_lt_of_le hlt hb.size, fun i c hi j u hu => ?_⟩
  rw [← hc i c hi j u hu]
  exact hb.cell (by unfold Addr.add; split <;> exact hlt)
/-- Element k: its cells, as_ a walk asks for them. -/
theorem RowsAt.elem {ks : List LK} {A : Option Addr} {len : Nat} {vs : List (List Value)} (h : RowsAt w ks A len vs) {k : Nat} (hk : k < len) :
    ∃ ad c, A = some ad ∧ vs[k]? = some c ∧ Lks ks c ∧ (∀ u, c[0]? = some u → w.cell? (ad.add (k * ks.length)) = some u) ∧ ∀ j u, c[j + 1]? = some u → w.cell? ⟨(ad.add (k * ks.length)).block, (ad.add (k * ks.length)).off + (j + 1), none⟩ = some u := by
  obtain ⟨ad, rfl, _, hc⟩ := h.2.2 (by omega)
  have hl : k < vs.length := by have := h.1; omega
  refine ⟨ad, vs[k], rfl, List.getElem?_eq_getElem hl, h.2.1 _ (List.getElem_mem _), fun u hu => ?_, fun j u hu => ?_⟩
  · have := hc k _ (List.getElem?_eq_getElem hl) 0 u hu
    rwa [Nat.add_zero] at this
  · have := hc k _ (List.getElem?_eq_getElem hl) (j + 1) u hu
    rw [← Go.Deep.add_add] at this
    rw [← this]
    congr 1
end

/-- A slice of whole numbers, as_ the kit's printed walks ask for it. -/
def IsRow (k : IntKind) (w : World) (a : Option Addr) (len cap : Nat) (zs : List Int) : Prop :=
  (a = none ∧ len = 0 ∧ cap = 0 ∧ zs = []) ∨
  ∃ x, a = some x ∧ len ≤ cap ∧ cap ≤ maxLen ∧ zs.length = cap ∧ (∀ i, i < zs.length → w.cell? (x.add i) = some (.int k (zs.getD i 0))) ∧ ∀ n ∈ zs, (Lit.int k n).wf = true

/-- A row's slice of whole numbers is no longer than its weight allows. -/
theorem sized_ints {H : Type} {enc : TypeId × Value → H} {P : Program} {W : World} {base : Nat} {spare : Nat → Bool} {held : Bool} {t e : TypeId} {k : IntKind} {a : Option Addr} {len cap : Nat} {d : DataW H} {ps : List MemPlace} {ts : List TypeId} {ds : List (DataW H)} {j : Nat}
    (hsz : (DataW.weightsEach P ts ds).all (· ≤ reachBytes) = true) (ht : ts[j]? = some t) (hd : ds[j]? = some d) (hu : P.underlying t = some (.slice e)) (he : P.underlying e = some (.int k)) (hc : P.cellsOf e = 1) {B : Nat} (hB : P.bytesOf e = B)
    (h : DataW.Trod enc P W base spare held t (.slice a len cap) d ps) : len * B ≤ 140737488351232 := by
  obtain ⟨fuel, hf⟩ := h
  rcases open_ints hu he hc hf with ⟨hcs, _⟩ | ⟨x, l, c, zs, hcs, _, hl, _, hz, hx, _, _⟩
  · simp [Value.cells] at hcs
    obtain ⟨rfl, rfl, rfl⟩ := hcs
    simp
  · simp [Value.cells] at hcs
    obtain ⟨rfl, rfl, rfl⟩ := hcs
    obtain ⟨hx, _⟩ := Prod.mk.inj hx
    subst hx
    have z := sized_slice hsz ht hd hu
    rw [hB] at z
    have hl2 : len ≤ zs.length := by
      rw [hz]
      split
      · exact hl
      · exact Nat.le_refl _
    have h1 : (lits (H := H) k (zs.take len)).length + (lits (H := H) k (zs.drop len)).length = zs.length := by
      simp [lits]
      omega
    rw [h1] at z
    exact Nat.le_trans (Nat.mul_le_mul_right _ hl2) z
end Go.Proofs.Ytjkngcpmcmffmaa.Lf
