/- A region that draws its order, walked in a tree of orders: where two operations may come up that touch the world, both ways are walked. -/
import Derived.Test.YtjkngcpmcmffmaaSq
namespace Go.Proofs.Ytjkngcpmcmffmaa.Sq2

inductive Tr where
  | done
  | st (t : Bool) (i : Nat) (n : Tr)
  | two (i j : Nat) (n m : Tr)
inductive TrO where
  | done
  | st (t : Bool) (o : Option Oper) (n : TrO)
  | two (o p : Option Oper) (n m : TrO)
def Tr.res (ops : Array Oper) : Tr → TrO
  | .done => .done
  | .st t i n => .st t ops[i]? (n.res ops)
  | .two i j n m => .two ops[i]? ops[j]? (n.res ops) (m.res ops)

section
variable {P : Program} {ops : Array Oper} {Q : Exit → Act → World → Prop} {S : World → Prop}

def okTr (ops : Array Oper) : Tr → Nat → Array Bool → Bool
  | .done, k, l => k == 0 && (Region.ready .any ops l).isEmpty
  | .st t i n, k + 1, l => (Region.ready .any ops l).contains i && (if t then Region.free .any ops l i else Region.ready .any ops l == [i]) && okTr ops n k (l.setIfInBounds i true)
  | .two i j n m, k + 1, l => Region.ready .any ops l == [i, j] && okTr ops n k (l.setIfInBounds i true) && okTr ops m k (l.setIfInBounds j true)
  | _, 0, _ => false

def wpTr (P : Program) (ops : Array Oper) (Q : Exit → Act → World → Prop) (S : World → Prop) : TrO → Act → World → Prop
  | .done, a, w => Q .normal a w
  | .st _ none _, _, _ => False
  | .st true (some o) n, a, w => ∃ v, YieldsIf P ops S o v a ∧ wpTr P ops Q S n (a.put o.dst v) w
  | .st false (some o) n, a, w => ∀ K : Act → World → Prop, Shut (∀ a w, S w → (S w → wpTr P ops Q S n a w) → K a w) → if Region.wanted o (yielded ops a.tmps) = true then Oper.wp P o a w K Q else K (a.put o.dst undef) w
  | .two none _ _ _, _, _ => False
  | .two _ none _ _, _, _ => False
  | .two (some o) (some p) n m, a, w => (∀ K : Act → World → Prop, Shut (∀ a w, S w → (S w → wpTr P ops Q S n a w) → K a w) → if Region.wanted o (yielded ops a.tmps) = true then Oper.wp P o a w K Q else K (a.put o.dst undef) w) ∧
    ∀ K : Act → World → Prop, Shut (∀ a w, S w → (S w → wpTr P ops Q S m a w) → K a w) → if Region.wanted p (yielded ops a.tmps) = true then Oper.wp P p a w K Q else K (a.put p.dst undef) w

theorem wpAnyH_tr (hs : Region.noSelect ops = true) (hQ : ∀ c a (d : Option Tmp) v w, Q (.panic c) (a.put d v) w → Q (.panic c) a w) : ∀ (t : Tr) (k : Nat) (l : Array Bool) (a : Act) (w : World), okTr ops t k l = true → S w →
    wpTr P ops Q S (t.res ops) a w → wpAnyH P .any ops Q S k l a w
  | .done, k, l, a, w, hc, _, h => by
    simp only [okTr, Bool.and_eq_true, List.isEmpty_iff] at hc
    exact wpAnyH_done hc.2 h _
  | .st t i n, 0, l, a, w, hc, _, _ => by simp [okTr] at hc
  | .two i j n m, 0, l, a, w, hc, _, _ => by simp [okTr] at hc
  | .st t i n, k + 1, l, a, w, hc, hS, h => by
    simp only [okTr, Bool.and_eq_true] at hc
    obtain ⟨⟨hr, hf⟩, hc⟩ := hc
    rcases ho : ops[i]? with _ | o
    · simp only [Tr.res, ho] at h
      cases t <;> exact h.elim
    · simp only [Tr.res, ho] at h
      cases t with
      | true =>
        simp only [if_true] at hf
        obtain ⟨v, hy, hk⟩ := h
        exact wpAnyH_take ho hs hf hr (fun c a w => hQ c a _ _ w) hy hS (wpAnyH_tr hs hQ n k _ _ _ hc hS hk)
      | false =>
        simp only [Bool.false_eq_true, if_false, beq_iff_eq] at hf
        refine wpAnyH_ready (rs := [i]) hf (by simp) (AllReadyH.cons ho (fun K hK => ?_) AllReadyH.nil)
        exact h K (fun a w hS hW => hK a w hS (fun hS => wpAnyH_tr hs hQ n k _ a w hc hS (hW hS)))
  | .two i j n m, k + 1, l, a, w, hc, hS, h => by
    simp only [okTr, Bool.and_eq_true, beq_iff_eq] at hc
    obtain ⟨⟨hr, hc1⟩, hc2⟩ := hc
    rcases ho : ops[i]? with _ | o
    · simp only [Tr.res, ho] at h
      exact h.elim
    · rcases hp : ops[j]? with _ | p
      · simp only [Tr.res, ho, hp] at h
        exact h.elim
      · simp only [Tr.res, ho, hp] at h
        refine wpAnyH_ready (rs := [i, j]) hr (by simp) (AllReadyH.cons ho (fun K hK => ?_) (AllReadyH.cons hp (fun K hK => ?_) AllReadyH.nil))
        · exact h.1 K (fun a w hS hW => hK a w hS (fun hS => wpAnyH_tr hs hQ n k _ a w hc1 hS (hW hS)))
        · exact h.2 K (fun a w hS hW => hK a w hS (fun hS => wpAnyH_tr hs hQ m k _ a w hc2 hS (hW hS)))

/-- The beginning. -/
theorem wp_region_tr {id : Nat} {a : Act} {w : World} (t : Tr) (S : World → Prop) (hm : P.follows .mixedOrders = true)
    (hc : (Region.noSelect ops && okTr ops t ops.size (Array.replicate ops.size false)) = true) (hS : S w.drew)
    (h : S w.drew → wpTr P ops (NoPanic Q) S (t.res ops) a w.drew) : (Code.region id ops true).wp P Q a w := by
  simp only [Bool.and_eq_true] at hc
  obtain ⟨hs, hc⟩ := hc
  refine wp_region_noPanic (wp_region_held_drew (S := S) hm hS fun hS => ?_)
  exact wpAnyH_tr (P := P) (Q := NoPanic Q) hs (fun _ _ _ _ _ h => h) t _ _ a _ hc hS (h hS)

theorem tr_take {o : Oper} {v : Value} {n : TrO} {a : Act} {w : World} (hw : Region.wanted o (yielded ops a.tmps) = true) (hy : ∀ w, S w → (execOp a.eval o).run P w = .ok (.value v) w)
    (h : wpTr P ops Q S n (a.put o.dst v) w) : wpTr P ops Q S (.st true (some o) n) a w := ⟨v, .inl ⟨hw, hy⟩, h⟩
theorem tr_skip {o : Oper} {n : TrO} {a : Act} {w : World} (hw : Region.wanted o (yielded ops a.tmps) = false)
    (h : wpTr P ops Q S n (a.put o.dst undef) w) : wpTr P ops Q S (.st true (some o) n) a w := ⟨undef, .inr ⟨hw, rfl⟩, h⟩
theorem tr_do {o : Oper} {n : TrO} {a : Act} {w : World} (h : ∀ K : Act → World → Prop, Shut (∀ a w, S w → (S w → wpTr P ops Q S n a w) → K a w) → if Region.wanted o (yielded ops a.tmps) = true then Oper.wp P o a w K Q else K (a.put o.dst undef) w) :
    wpTr P ops Q S (.st false (some o) n) a w := h
theorem tr_not {o : Oper} {n : TrO} {a : Act} {w : World} (hw : Region.wanted o (yielded ops a.tmps) = false) (hS : S w)
    (h : wpTr P ops Q S n (a.put o.dst undef) w) : wpTr P ops Q S (.st false (some o) n) a w := fun K hK => by
  rw [if_neg (by rw [hw]; simp)]
  exact hK.out _ _ hS fun _ => h
theorem tr_two {o p : Oper} {n m : TrO} {a : Act} {w : World} (h1 : wpTr P ops Q S (.st false (some o) n) a w) (h2 : wpTr P ops Q S (.st false (some p) m) a w) :
    wpTr P ops Q S (.two (some o) (some p) n m) a w := ⟨h1, h2⟩
theorem tr_done {a : Act} {w : World} (h : Q .normal a w) : wpTr P ops (NoPanic Q) S .done a w := h
end
end Go.Proofs.Ytjkngcpmcmffmaa.Sq2
