/- A drawn region in a tree of orders whose last operations (from number c on) may turn what the region read. -/
import Derived.OrdersHeld
import Derived.Deep.RegionHeld3
namespace Go.Proofs.Ytmheabnpkbhadaa.Sp

section
variable {P : Program} {ops : Array Oper} {Q : Exit → Act → World → Prop} {S : World → Prop}

/-- Whatever comes up, S holds behind it; behind operation c the rest goes as it goes. -/
def wpAll (P : Program) (ops : Array Oper) (Q : Exit → Act → World → Prop) (c : Nat) (S : World → Prop) : Nat → Array Bool → Act → World → Prop
  | 0, l, a, w => Region.ready .any ops l = [] ∧ Q .normal a w
  | k + 1, l, a, w => (Region.ready .any ops l = [] → Q .normal a w) ∧ ∀ i ∈ Region.ready .any ops l, wpOp P ops Q i (fun a' w' => if i = c then wpAny P .any ops Q k (l.setIfInBounds i true) a' w' else S w' ∧ wpAll P ops Q c S k (l.setIfInBounds i true) a' w') a w

theorem wpAll_any {c : Nat} : ∀ (k : Nat) (l : Array Bool) (a : Act) (w : World), wpAll P ops Q c S k l a w → wpAny P .any ops Q k l a w
  | 0, _, _, _, h => h
  | k + 1, _, _, _, h => ⟨h.1, fun i hi => wpOp_mono (fun a' w' h' => by
      by_cases e : i = c
      · rwa [if_pos e] at h'
      · rw [if_neg e] at h'
        exact wpAll_any k _ a' w' h'.2) (h.2 i hi)⟩

/-- Number j waits for number i, on whatever way. -/
def reach (ops : Array Oper) (i : Nat) : Nat → Nat → Bool
  | 0, _ => false
  | f + 1, j => match ops[j]? with
    | none => false
    | some o => o.after.any fun e => Region.binds .any e && (e.on == i || reach ops i f e.on)
/-- What is listed has all listed that it waits for. -/
def Dcl (ops : Array Oper) (l : Array Bool) : Prop := ∀ m om, ops[m]? = some om → l.getD m false = true → ∀ e ∈ om.after, Region.binds .any e = true → l.getD e.on false = true
theorem reach_listed {i : Nat} {l : Array Bool} (hd : Dcl ops l) : ∀ (f j : Nat) (oj : Oper), ops[j]? = some oj → (∀ e ∈ oj.after, Region.binds .any e = true → l.getD e.on false = true) → reach ops i f j = true → l.getD i false = true
  | 0, _, _, _, _, h => by cases h
  | f + 1, j, oj, hj, hl, h => by
    simp only [reach, hj, Array.any_eq_true] at h
    obtain ⟨m, hm, h⟩ := h
    simp only [Bool.and_eq_true, Bool.or_eq_true, beq_iff_eq] at h
    obtain ⟨hb, h⟩ := h
    have he := hl _ (Array.getElem_mem hm) hb
    rcases h with h | h
    · rwa [h] at he
    · cases ho : ops[oj.after[m].on]? with
      | none =>
        cases f with
        | zero => cases h
        | succ f =>
          simp only [reach, ho] at h
          cases h
      | some o => exact reach_listed hd f _ o ho (hd _ o ho he) h
theorem Dcl.put {l : Array Bool} (hd : Dcl ops l) {i : Nat} (hr : i ∈ Region.ready .any ops l) : Dcl ops (l.setIfInBounds i true) := by
  intro m om hm hl e he hb
  by_cases hmi : i = m
  · subst hmi
    obtain ⟨_, o, ho, hall⟩ := mem_ready.1 hr
    rw [hm] at ho
    injection ho with ho
    subst ho
    exact getD_set_true (hall e he hb)
  · rw [getD_set_ne false hmi] at hl
    exact getD_set_true (hd m om hm hl e he hb)

theorem wpAll_take {c i : Nat} {oi : Oper} {v : Value} (hi : ops[i]? = some oi) (hsel : ∀ (j : Nat) (o : Oper) cs b, ops[j]? = some o → o.op ≠ .select cs b) (hQ : ∀ c a w, Q (.panic c) (a.put oi.dst v) w → Q (.panic c) a w) (hc : reach ops i ops.size c = true) (hic : i ≠ c) :
    ∀ (k : Nat) (l : Array Bool) (a : Act) (w : World), (∀ j oj, ops[j]? = some oj → j ≠ i → l.getD j true = false → (∀ e ∈ oj.after, Region.binds .any e = true → e.on ≠ i) → oi.apart ops oj = true) → Dcl ops l →
      i ∈ Region.ready .any ops l → YieldsIf P ops S oi v a → S w → wpAll P ops Q c S k (l.setIfInBounds i true) (a.put oi.dst v) w → wpAll P ops Q c S (k + 1) l a w
  | k, l, a, w, hfree, hd, hr, hy, hS, H => by
    refine ⟨fun h => absurd hr (by rw [h]; simp), fun j hj => ?_⟩
    by_cases hji : j = i
    · subst hji
      refine hy.wpOp hi hS ?_
      rw [if_neg hic]
      exact ⟨hS, H⟩
    · have hun0 : l.getD i true = false := (mem_ready.1 hr).1
      have hun1 : ¬ l.getD i false = true := fun h => by
        rcases Nat.lt_or_ge i l.size with hs | hs
        · simp only [Array.getD_eq_getD_getElem?, Array.getElem?_eq_getElem hs, Option.getD_some] at hun0 h
          rw [h] at hun0
          cases hun0
        · simp only [Array.getD_eq_getD_getElem?, Array.getElem?_eq_none hs, Option.getD_none] at hun0
          cases hun0
      obtain ⟨hun, oj, hoj, hall⟩ := mem_ready.1 hj
      have hjc : j ≠ c := fun e => by
        subst e
        exact hun1 (reach_listed hd _ _ oj hoj hall hc)
      simp only [if_neg hjc]
      cases k with
      | zero =>
        have h0 := ready_mono hj hji
        rw [H.1] at h0
        cases h0
      | succ k =>
        have h1 := H.2 j (ready_mono hj hji)
        simp only [if_neg hjc] at h1
        have hno : ∀ e ∈ oj.after, Region.binds .any e = true → e.on ≠ i := fun e he hb heq => hun1 (heq ▸ hall e he hb)
        have hap := hfree j oj hoj hji hun hno
        have h2 := wpOp_putIf hoj hap (fun cs b => hsel i oi cs b hi) (fun cs b => hsel j oj cs b hoj) hQ hy h1
        refine wpOp_mono (fun a' w' h3 => ⟨h3.2.1, wpAll_take hi hsel hQ hc hic k _ a' w' (fun m om hm hmi hmu hmn => hfree m om hm hmi ?_ hmn) (hd.put hj) (ready_mono hr (Ne.symm hji)) h3.1 h3.2.1 ?_⟩) h2
        · by_cases hjm : j = m
          · subst hjm
            exact hun
          · rwa [getD_set_ne true hjm] at hmu
        · rw [Array.setIfInBounds_comm _ _ hji]
          exact h3.2.2

/-- A tree of orders: operations taken or done alone, two that come in either order, at the end c and what comes behind it, each alone. -/
inductive Tc where
  | fin (ts : List Nat)
  | st (t : Bool) (i : Nat) (n : Tc)
  | two (i j : Nat) (n m : Tc)
inductive TcO where
  | fin (ts : List (Option Oper))
  | st (t : Bool) (o : Option Oper) (n : TcO)
  | two (o p : Option Oper) (n m : TcO)
def Tc.res (ops : Array Oper) (c : Nat) : Tc → TcO
  | .fin ts => .fin ((c :: ts).map fun i => ops[i]?)
  | .st t i n => .st t ops[i]? (n.res ops c)
  | .two i j n m => .two ops[i]? ops[j]? (n.res ops c) (m.res ops c)
def okTail (ops : Array Oper) : List Nat → Array Bool → Bool
  | [], l => (Region.ready .any ops l).isEmpty
  | i :: is, l => Region.ready .any ops l == [i] && okTail ops is (l.setIfInBounds i true)
def okT (ops : Array Oper) (c : Nat) : Tc → Nat → Array Bool → Bool
  | .fin ts, k, l => k == ts.length + 1 && Region.ready .any ops l == [c] && okTail ops ts (l.setIfInBounds c true)
  | .st t i n, k + 1, l => (Region.ready .any ops l).contains i && (if t then Region.free .any ops l i && reach ops i ops.size c else Region.ready .any ops l == [i]) && (i != c) && okT ops c n k (l.setIfInBounds i true)
  | .two i j n m, k + 1, l => Region.ready .any ops l == [i, j] && (i != c) && (j != c) && okT ops c n k (l.setIfInBounds i true) && okT ops c m k (l.setIfInBounds j true)
  | _, 0, _ => false

def wpTail (P : Program) (ops : Array Oper) (Q : Exit → Act → World → Prop) : List (Option Oper) → Act → World → Prop
  | [], a, w => Q .normal a w
  | none :: _, _, _ => False
  | some o :: is, a, w => ∀ K : Act → World → Prop, Shut (∀ a w, wpTail P ops Q is a w → K a w) → if Region.wanted o (yielded ops a.tmps) = true then Oper.wp P o a w K Q else K (a.put o.dst undef) w
def wpT (P : Program) (ops : Array Oper) (Q : Exit → Act → World → Prop) (S : World → Prop) : TcO → Act → World → Prop
  | .fin ts, a, w => wpTail P ops Q ts a w
  | .st _ none _, _, _ => False
  | .st true (some o) n, a, w => ∃ v, YieldsIf P ops S o v a ∧ wpT P ops Q S n (a.put o.dst v) w
  | .st false (some o) n, a, w => ∀ K : Act → World → Prop, Shut (∀ a w, S w → (S w → wpT P ops Q S n a w) → K a w) → if Region.wanted o (yielded ops a.tmps) = true then Oper.wp P o a w K Q else K (a.put o.dst undef) w
  | .two none _ _ _, _, _ => False
  | .two _ none _ _, _, _ => False
  | .two (some o) (some p) n m, a, w => (∀ K : Act → World → Prop, Shut (∀ a w, S w → (S w → wpT P ops Q S n a w) → K a w) → if Region.wanted o (yielded ops a.tmps) = true then Oper.wp P o a w K Q else K (a.put o.dst undef) w) ∧
    ∀ K : Act → World → Prop, Shut (∀ a w, S w → (S w → wpT P ops Q S m a w) → K a w) → if Region.wanted p (yielded ops a.tmps) = true then Oper.wp P p a w K Q else K (a.put p.dst undef) w

theorem any_tail : ∀ (is : List Nat) (l : Array Bool) (a : Act) (w : World), okTail ops is l = true → wpTail P ops Q (is.map fun i => ops[i]?) a w → wpAny P .any ops Q is.length l a w
  | [], l, a, w, hc, h => by
    simp only [okTail, List.isEmpty_iff] at hc
    exact ⟨hc, h⟩
  | i :: is, l, a, w, hc, h => by
    simp only [okTail, Bool.and_eq_true, beq_iff_eq] at hc
    obtain ⟨hr, hc⟩ := hc
    rw [List.map_cons] at h
    refine ⟨fun h0 => absurd (hr.symm.trans h0) (by simp), fun j hj => ?_⟩
    rw [hr, List.mem_singleton] at hj
    subst hj
    cases ho : ops[j]? with
    | none =>
      rw [ho] at h
      exact h.elim
    | some o =>
      rw [ho] at h
      exact wpOp_step ho (fun K hK => h K (fun a w hW => hK a w (any_tail is _ a w hc hW)))

theorem wpAll_t {c : Nat} (hs : Region.noSelect ops = true) (hQ : ∀ c a (d : Option Tmp) v w, Q (.panic c) (a.put d v) w → Q (.panic c) a w) : ∀ (t : Tc) (k : Nat) (l : Array Bool) (a : Act) (w : World), okT ops c t k l = true → Dcl ops l → S w →
    wpT P ops Q S (t.res ops c) a w → wpAll P ops Q c S k l a w
  | .fin ts, k, l, a, w, hc, hd, hS, h => by
    simp only [okT, Bool.and_eq_true, beq_iff_eq] at hc
    obtain ⟨⟨rfl, hr⟩, hc⟩ := hc
    have h : wpTail P ops Q ((c :: ts).map fun i => ops[i]?) a w := h
    rw [List.map_cons] at h
    refine ⟨fun h0 => absurd (hr.symm.trans h0) (by simp), fun j hj => ?_⟩
    rw [hr, List.mem_singleton] at hj
    subst hj
    cases ho : ops[j]? with
    | none =>
      rw [ho] at h
      exact h.elim
    | some o =>
      rw [ho] at h
      refine wpOp_step ho (fun K hK => h K (fun a w hW => hK a w ?_))
      rw [if_pos rfl]
      exact any_tail ts _ a w hc hW
  | .st t i n, 0, l, a, w, hc, _, _, _ => by simp [okT] at hc
  | .two i j n m, 0, l, a, w, hc, _, _, _ => by simp [okT] at hc
  | .st t i n, k + 1, l, a, w, hc, hd, hS, h => by
    simp only [okT, Bool.and_eq_true, bne_iff_ne, ne_eq] at hc
    obtain ⟨⟨⟨hr, hf⟩, hic⟩, hc⟩ := hc
    have hr' : i ∈ Region.ready .any ops l := by simpa using hr
    cases ho : ops[i]? with
    | none =>
      simp only [Tc.res, ho] at h
      cases t <;> exact h.elim
    | some o =>
      simp only [Tc.res, ho] at h
      cases t with
      | true =>
        simp only [if_true, Bool.and_eq_true] at hf
        obtain ⟨v, hy, hk⟩ := h
        exact wpAll_take ho (Region.noSelect_spec hs) (fun c a w => hQ c a _ _ w) hf.2 hic _ _ _ _ (Region.free_spec ho hf.1) hd hr' hy hS (wpAll_t hs hQ n k _ _ _ hc (hd.put hr') hS hk)
      | false =>
        simp only [Bool.false_eq_true, if_false, beq_iff_eq] at hf
        refine ⟨fun h0 => absurd (hf.symm.trans h0) (by simp), fun j hj => ?_⟩
        rw [hf, List.mem_singleton] at hj
        subst hj
        refine wpOp_step ho (fun K hK => h K (fun a w hS hW => hK a w ?_))
        rw [if_neg hic]
        exact ⟨hS, wpAll_t hs hQ n k _ a w hc (hd.put hr') hS (hW hS)⟩
  | .two i j n m, k + 1, l, a, w, hc, hd, hS, h => by
    simp only [okT, Bool.and_eq_true, bne_iff_ne, ne_eq, beq_iff_eq] at hc
    obtain ⟨⟨⟨⟨hr, hic⟩, hjc⟩, hc1⟩, hc2⟩ := hc
    cases ho : ops[i]? with
    | none =>
      simp only [Tc.res, ho] at h
      exact h.elim
    | some o =>
      cases hp : ops[j]? with
      | none =>
        simp only [Tc.res, ho, hp] at h
        exact h.elim
      | some p =>
        simp only [Tc.res, ho, hp] at h
        refine ⟨fun h0 => absurd (hr.symm.trans h0) (by simp), fun x hx => ?_⟩
        have hx' := hx
        rw [hr] at hx
        simp only [List.mem_cons, List.not_mem_nil, or_false] at hx
        rcases hx with rfl | rfl
        · refine wpOp_step ho (fun K hK => h.1 K (fun a w hS hW => hK a w ?_))
          rw [if_neg hic]
          exact ⟨hS, wpAll_t hs hQ n k _ a w hc1 (hd.put hx') hS (hW hS)⟩
        · refine wpOp_step hp (fun K hK => h.2 K (fun a w hS hW => hK a w ?_))
          rw [if_neg hjc]
          exact ⟨hS, wpAll_t hs hQ m k _ a w hc2 (hd.put hx') hS (hW hS)⟩

theorem wp_region_tc {id : Nat} {a : Act} {w : World} (c : Nat) (t : Tc) (S : World → Prop) (hm : P.follows .mixedOrders = true)
    (hc : (Region.noSelect ops && okT ops c t ops.size (Array.replicate ops.size false)) = true) (hS : S w.drew)
    (h : wpT P ops (NoPanic Q) S (t.res ops c) a w.drew) : (Code.region id ops true).wp P Q a w := by
  simp only [Bool.and_eq_true] at hc
  obtain ⟨hs, hc⟩ := hc
  have hd : Dcl ops (Array.replicate ops.size false) := fun m _ _ h => by
    by_cases hm : m < ops.size
    · simp [hm] at h
    · simp [hm] at h
  exact wp_region_noPanic (wp_region_any hm (wpAll_any _ _ _ _ (wpAll_t (P := P) (Q := NoPanic Q) hs (fun _ _ _ _ _ h => h) t _ _ a _ hc hd hS h)))

theorem tc_take {o : Oper} {v : Value} {n : TcO} {a : Act} {w : World} (hw : Region.wanted o (yielded ops a.tmps) = true) (hy : ∀ w, S w → (execOp a.eval o).run P w = .ok (.value v) w)
    (h : wpT P ops Q S n (a.put o.dst v) w) : wpT P ops Q S (.st true (some o) n) a w := ⟨v, .inl ⟨hw, hy⟩, h⟩
theorem tc_do {o : Oper} {n : TcO} {a : Act} {w : World} (h : ∀ K : Act → World → Prop, Shut (∀ a w, S w → (S w → wpT P ops Q S n a w) → K a w) → if Region.wanted o (yielded ops a.tmps) = true then Oper.wp P o a w K Q else K (a.put o.dst undef) w) : wpT P ops Q S (.st false (some o) n) a w := h
theorem tc_two {o p : Oper} {n m : TcO} {a : Act} {w : World} (h1 : wpT P ops Q S (.st false (some o) n) a w) (h2 : wpT P ops Q S (.st false (some p) m) a w) : wpT P ops Q S (.two (some o) (some p) n m) a w := ⟨h1, h2⟩
theorem tc_end {o : Oper} {is : List (Option Oper)} {a : Act} {w : World} (h : ∀ K : Act → World → Prop, Shut (∀ a w, wpTail P ops Q is a w → K a w) → if Region.wanted o (yielded ops a.tmps) = true then Oper.wp P o a w K Q else K (a.put o.dst undef) w) : wpT P ops Q S (.fin (some o :: is)) a w := h
theorem tc_done {a : Act} {w : World} (h : Q .normal a w) : wpTail P ops (NoPanic Q) [] a w := h
end
end Go.Proofs.Ytmheabnpkbhadaa.Sp
