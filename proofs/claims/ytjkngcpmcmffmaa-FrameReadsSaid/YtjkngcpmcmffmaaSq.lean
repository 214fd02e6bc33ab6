/- A region that draws its order, walked once, in one order: what touches no world, and what reads cells that the condition S holds, is taken first; a call or a store is carried out where nothing else may come up. -/
import Derived.Deep.RegionHeld3
namespace Go.Proofs.Ytjkngcpmcmffmaa.Sq

section
variable {P : Program} {ops : Array Oper} {Q : Exit → Act → World → Prop} {S : World → Prop}

/-- The order serves: each number may come up; it is apart from all that is left, or it is the only one. -/
def okSeq (ops : Array Oper) : List (Nat × Bool) → Array Bool → Bool
  | [], l => (Region.ready .any ops l).isEmpty
  | (i, t) :: is, l => (Region.ready .any ops l).contains i && (if t then Region.free .any ops l i else Region.ready .any ops l == [i]) && okSeq ops is (l.setIfInBounds i true)

def wpSeq (P : Program) (ops : Array Oper) (Q : Exit → Act → World → Prop) (S : World → Prop) : List (Bool × Option Oper) → Act → World → Prop
  | [], a, w => Q .normal a w
  | (_, none) :: _, _, _ => False
  | (true, some o) :: is, a, w => ∃ v, YieldsIf P ops S o v a ∧ wpSeq P ops Q S is (a.put o.dst v) w
  | (false, some o) :: is, a, w => ∀ K : Act → World → Prop, Shut (∀ a w, S w → (S w → wpSeq P ops Q S is a w) → K a w) → if Region.wanted o (yielded ops a.tmps) = true then Oper.wp P o a w K Q else K (a.put o.dst undef) w

theorem wpAnyH_seq (hs : Region.noSelect ops = true) (hQ : ∀ c a (d : Option Tmp) v w, Q (.panic c) (a.put d v) w → Q (.panic c) a w) : ∀ (is : List (Nat × Bool)) (l : Array Bool) (a : Act) (w : World), okSeq ops is l = true → S w →
    wpSeq P ops Q S (is.map fun x => (x.2, ops[x.1]?)) a w → wpAnyH P .any ops Q S is.length l a w
  | [], l, a, w, hc, _, h => by
    simp only [okSeq, List.isEmpty_iff] at hc
    exact wpAnyH_done hc h _
  | (i, t) :: is, l, a, w, hc, hS, h => by
    simp only [okSeq, Bool.and_eq_true] at hc
    obtain ⟨⟨hr, hf⟩, hc⟩ := hc
    rw [List.map_cons] at h
    rcases ho : ops[i]? with _ | o
    · simp only [ho] at h
      cases t <;> exact h.elim
    · simp only [ho] at h
      cases t with
      | true =>
        simp only [if_true] at hf
        obtain ⟨v, hy, hk⟩ := h
        exact wpAnyH_take ho hs hf hr (fun c a w => hQ c a _ _ w) hy hS (wpAnyH_seq hs hQ is _ _ _ hc hS hk)
      | false =>
        simp only [Bool.false_eq_true, if_false, beq_iff_eq] at hf
        refine wpAnyH_ready (rs := [i]) hf (by simp) (AllReadyH.cons ho (fun K hK => ?_) AllReadyH.nil)
        exact h K (fun a w hS hW => hK a w hS (fun hS => wpAnyH_seq hs hQ is _ a w hc hS (hW hS)))

/-- The beginning. -/
theorem wp_region_seq {id : Nat} {a : Act} {w : World} (is : List (Nat × Bool)) (S : World → Prop) (hm : P.follows .mixedOrders = true)
    (hc : (Region.noSelect ops && is.length == ops.size && okSeq ops is (Array.replicate ops.size false)) = true) (hS : S w.drew)
    (h : S w.drew → wpSeq P ops (NoPanic Q) S (is.map fun x => (x.2, ops[x.1]?)) a w.drew) : (Code.region id ops true).wp P Q a w := by
  simp only [Bool.and_eq_true, beq_iff_eq] at hc
  obtain ⟨⟨hs, hl⟩, hc⟩ := hc
  refine wp_region_noPanic (wp_region_held_drew (S := S) hm hS fun hS => ?_)
  have := wpAnyH_seq (P := P) (Q := NoPanic Q) hs (fun _ _ _ _ _ h => h) is _ a _ hc hS (h hS)
  rw [hl] at this
  exact this

theorem seq_take {o : Oper} {v : Value} {is : List (Bool × Option Oper)} {a : Act} {w : World} (hw : Region.wanted o (yielded ops a.tmps) = true) (hy : ∀ w, S w → (execOp a.eval o).run P w = .ok (.value v) w)
    (h : wpSeq P ops Q S is (a.put o.dst v) w) : wpSeq P ops Q S ((true, some o) :: is) a w := ⟨v, .inl ⟨hw, hy⟩, h⟩
theorem seq_skip {o : Oper} {is : List (Bool × Option Oper)} {a : Act} {w : World} (hw : Region.wanted o (yielded ops a.tmps) = false)
    (h : wpSeq P ops Q S is (a.put o.dst undef) w) : wpSeq P ops Q S ((true, some o) :: is) a w := ⟨undef, .inr ⟨hw, rfl⟩, h⟩
theorem seq_do {o : Oper} {is : List (Bool × Option Oper)} {a : Act} {w : World} (h : ∀ K : Act → World → Prop, Shut (∀ a w, S w → (S w → wpSeq P ops Q S is a w) → K a w) → if Region.wanted o (yielded ops a.tmps) = true then Oper.wp P o a w K Q else K (a.put o.dst undef) w) :
    wpSeq P ops Q S ((false, some o) :: is) a w := h
theorem seq_not {o : Oper} {is : List (Bool × Option Oper)} {a : Act} {w : World} (hw : Region.wanted o (yielded ops a.tmps) = false) (hS : S w)
    (h : wpSeq P ops Q S is (a.put o.dst undef) w) : wpSeq P ops Q S ((false, some o) :: is) a w := fun K hK => by
  rw [if_neg (by rw [hw]; simp)]
  exact hK.out _ _ hS fun _ => h
theorem seq_done {a : Act} {w : World} (h : Q .normal a w) : wpSeq P ops (NoPanic Q) S [] a w := h
end
end Go.Proofs.Ytjkngcpmcmffmaa.Sq
