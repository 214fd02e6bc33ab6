/- Sq.lean's walk of a drawn region in one order, inside a fence: for iterators' bodies. -/
import Derived.OrdersIn
import Derived.OrdersHeld
import Derived.Deep.RegionHeld3
import Derived.TacticsIn
namespace Go.Proofs.Ytmheabnpkbhadaa.Si

section
variable {F : Fence} {n : Nat} {P : Program} {ops : Array Oper} {Q : Exit → Act → World → Prop} {S : World → Prop}

/-- o yields v in every world that meets S, and is about to call nothing. -/
def Yl (P : Program) (ops : Array Oper) (S : World → Prop) (o : Oper) (v : Value) (a : Act) : Prop := YieldsIf P ops S o v a ∧ ∀ w, o.about P w a.eval = none

/-- Whatever comes up, S holds behind it; behind operation c (the round) the rest goes as it goes. -/
def wpAll (F : Fence) (n : Nat) (P : Program) (ops : Array Oper) (Q : Exit → Act → World → Prop) (c : Nat) (S : World → Prop) : Nat → Array Bool → Act → World → Prop
  | 0, l, a, w => Region.ready .any ops l = [] ∧ Q .normal a w
  | k + 1, l, a, w => (Region.ready .any ops l = [] → Q .normal a w) ∧ ∀ i ∈ Region.ready .any ops l, wpOpIn F n P ops Q i (fun a' w' => if i = c then wpAnyIn F n P .any ops Q k (l.setIfInBounds i true) a' w' else S w' ∧ wpAll F n P ops Q c S k (l.setIfInBounds i true) a' w') a w

theorem wpAll_any {c : Nat} : ∀ (k : Nat) (l : Array Bool) (a : Act) (w : World), wpAll F n P ops Q c S k l a w → wpAnyIn F n P .any ops Q k l a w
  | 0, _, _, _, h => h
  | k + 1, _, _, _, h => ⟨h.1, fun i hi => wpOpIn_mono (fun a' w' h' => by
      by_cases e : i = c
      · rwa [if_pos e] at h'
      · rw [if_neg e] at h'
        exact wpAll_any k _ a' w' h'.2) (h.2 i hi)⟩

/-- Number j waits for number i, on whatever way. -/
def reach (ops : Array Oper) (i : Nat) : Nat → Nat → Bool
  | 0, _ => false
  | f + 1, j => match ops[j]? with
    | none => false
    | some o => o.after.any fun e => Region.binds .any e && (e.on == i || reach ops i f e.on)
/-- What is listed has all listed that it waits for. -/
def Dcl (ops : Array Oper) (l : Array Bool) : Prop := ∀ m om, ops[m]? = some om → l.getD m false = true → ∀ e ∈ om.after, Region.binds .any e = true → l.getD e.on false = true
theorem reach_listed {i : Nat} {l : Array Bool} (hd : Dcl ops l) : ∀ (f j : Nat) (oj : Oper), ops[j]? = some oj → (∀ e ∈ oj.after, Region.binds .any e = true → l.getD e.on false = true) → reach ops i f j = true → l.getD i false = true
  | 0, _, _, _, _, h => by cases h
  | f + 1, j, oj, hj, hl, h => by
    simp only [reach, hj, Array.any_eq_true] at h
    obtain ⟨m, hm, h⟩ := h
    simp only [Bool.and_eq_true, Bool.or_eq_true, beq_iff_eq] at h
    obtain ⟨hb, h⟩ := h
    have he := hl _ (Array.getElem_mem hm) hb
    rcases h with h | h
    · rwa [h] at he
    · cases ho : ops[oj.after[m].on]? with
      | none =>
        cases f with
        | zero => cases h
        | succ f =>
          simp only [reach, ho] at h
          cases h
      | some o => exact reach_listed hd f _ o ho (hd _ o ho he) h
theorem Dcl.put {l : Array Bool} (hd : Dcl ops l) {i : Nat} (hr : i ∈ Region.ready .any ops l) : Dcl ops (l.setIfInBounds i true) := by
  intro m om hm hl e he hb
  by_cases hmi : i = m
  · subst hmi
    obtain ⟨_, o, ho, hall⟩ := mem_ready.1 hr
    rw [hm] at ho
    injection ho with ho
    subst ho
    exact getD_set_true (hall e he hb)
  · rw [getD_set_ne false hmi] at hl
    exact getD_set_true (hd m om hm hl e he hb)

theorem Yl.does {i : Nat} {o : Oper} {v : Value} {a : Act} (hd : ∀ c, o.op ≠ .defer c) (hi : ops[i]? = some o) (hy : Yl P ops S o v a) {K : Act → World → Prop} {w : World} (hS : S w) (h : K (a.put o.dst v) w) : wpOpIn F n P ops Q i K a w := by
  have hab : ∀ f, o.about P w a.eval = some f → F.fn f := fun f hf => absurd hf (by rw [hy.2 w]; simp)
  unfold wpOpIn
  rw [hi]
  dsimp only
  rcases hy.1 with ⟨hw, hv⟩ | ⟨hw, rfl⟩
  · rw [if_pos hw]
    unfold Oper.wpIn
    rw [Oper.semAt_eq _ _ _ hd, hv w hS]
    exact ⟨hab, h⟩
  · rw [if_neg (by rw [hw]; simp)]
    exact ⟨hab, h⟩

/-- What another operation does is the same with the value already laid; a predicate Y that it leaves alone stays. -/
theorem carry {j : Nat} {oi oj : Oper} {v : Value} (Y : Act → Prop) (hY : ∀ a u, Y a → Y (a.put oj.dst u)) (hYd : ∀ a d, Y a → Y { a with defers := d :: a.defers }) (hdj : ∀ c, oj.op ≠ .defer c) (hj : ops[j]? = some oj) (hap : oi.apart ops oj = true)
    (hsj : ∀ cs b, oj.op ≠ .select cs b) (hQ : ∀ c a w, Q (.panic c) (a.put oi.dst v) w → Q (.panic c) a w) {K : Act → World → Prop} {a : Act} {w : World} (hy : Y a)
    (h : wpOpIn F n P ops Q j K (a.put oi.dst v) w) : wpOpIn F n P ops Q j (fun a' w' => Y a' ∧ K (a'.put oi.dst v) w') a w := by
  obtain ⟨h1, h2, _⟩ := Oper.apart_spec hap
  have back : ∀ (b : Act) (u : Value), K ((b.put oi.dst v).put oj.dst u) = K ((b.put oj.dst u).put oi.dst v) := fun b u => by rw [Act.put_comm b v u h2]
  unfold wpOpIn at h ⊢
  rw [hj] at h ⊢
  dsimp only at h ⊢
  rw [wanted_put oj a oi.dst v h1, about_put oj w a oi.dst v h1] at h
  by_cases hw : Region.wanted oj (yielded ops a.tmps) = true
  · rw [if_pos hw] at h ⊢
    unfold Oper.wpIn at h ⊢
    rw [about_put oj w a oi.dst v h1, Oper.semAt_eq _ _ _ hdj, execOp_put oj hsj a oi.dst v h1] at h
    rw [Oper.semAt_eq _ _ _ hdj]
    refine ⟨h.1, ?_⟩
    have hu := h.2
    cases hr : (execOp a.eval oj).run P w with
    | halt x w' =>
      rw [hr] at hu
      cases x <;> first | exact hQ _ _ _ hu | exact hu
    | ok x w' =>
      rw [hr] at hu
      cases x with
      | value u => exact ⟨hY a u hy, by have hu : K _ w' := hu; rwa [back] at hu⟩
      | skip => exact ⟨hY a _ hy, by have hu : K _ w' := hu; rwa [back] at hu⟩
      | defer d =>
        refine ⟨hY _ _ (hYd a d hy), ?_⟩
        have hu : K _ w' := hu
        rw [Act.put_defers, back] at hu
        exact hu
      | enter f args =>
        refine ⟨hu.1, CallsIn.mono hu.2 fun e w'' he => ?_⟩
        cases e with
        | returned u => exact ⟨hY a u hy, by have he : K _ w'' := he; rwa [back] at he⟩
        | panicked c => exact hQ _ _ _ he
        | outgrown => exact he
      | row r args => exact ⟨hu.1, RowsIn.mono hu.2 fun u w'' he => ⟨hY a u hy, by have he : K _ w'' := he; rwa [back] at he⟩⟩
      | round l f tmps assign body =>
        refine ⟨hu.1, RoundIn.mono hu.2 fun e w'' he => ?_⟩
        cases e with
        | returned u => exact ⟨hY a u hy, by have he : K _ w'' := he; rwa [back] at he⟩
        | panicked c => exact hQ _ _ _ he
        | outgrown => exact he
      | _ => exact hu
  · rw [if_neg hw] at h ⊢
    exact ⟨h.1, hY a _ hy, by have hk := h.2; rwa [back] at hk⟩

/-- An operation that yields in every world of S, that all others wait for or are apart from, and that the round waits for, may be taken first. -/
theorem wpAll_take {c i : Nat} {oi : Oper} {v : Value} (hdef : ∀ (j : Nat) (o : Oper) c, ops[j]? = some o → o.op ≠ .defer c) (hi : ops[i]? = some oi) (hsel : ∀ (j : Nat) (o : Oper) cs b, ops[j]? = some o → o.op ≠ .select cs b) (hQ : ∀ c a w, Q (.panic c) (a.put oi.dst v) w → Q (.panic c) a w) (hc : reach ops i ops.size c = true) (hic : i ≠ c) :
    ∀ (k : Nat) (l : Array Bool) (a : Act) (w : World), (∀ j oj, ops[j]? = some oj → j ≠ i → l.getD j true = false → (∀ e ∈ oj.after, Region.binds .any e = true → e.on ≠ i) → oi.apart ops oj = true) → Dcl ops l →
      i ∈ Region.ready .any ops l → Yl P ops S oi v a → S w → wpAll F n P ops Q c S k (l.setIfInBounds i true) (a.put oi.dst v) w → wpAll F n P ops Q c S (k + 1) l a w
  | k, l, a, w, hfree, hd, hr, hy, hS, H => by
    refine ⟨fun h => absurd hr (by rw [h]; simp), fun j hj => ?_⟩
    by_cases hji : j = i
    · subst hji
      refine hy.does (fun c => hdef _ _ c hi) hi hS ?_
      rw [if_neg hic]
      exact ⟨hS, H⟩
    · have hun0 : l.getD i true = false := (mem_ready.1 hr).1
      have hun1 : ¬ l.getD i false = true := fun h => by
        rcases Nat.lt_or_ge i l.size with hs | hs
        · simp only [Array.getD_eq_getD_getElem?, Array.getElem?_eq_getElem hs, Option.getD_some] at hun0 h
          rw [h] at hun0
          cases hun0
        · simp only [Array.getD_eq_getD_getElem?, Array.getElem?_eq_none hs, Option.getD_none] at hun0
          cases hun0
      obtain ⟨hun, oj, hoj, hall⟩ := mem_ready.1 hj
      have hjc : j ≠ c := fun e => by
        subst e
        exact hun1 (reach_listed hd _ _ oj hoj hall hc)
      simp only [if_neg hjc]
      cases k with
      | zero =>
        have h0 := ready_mono hj hji
        rw [H.1] at h0
        cases h0
      | succ k =>
        have h1 := H.2 j (ready_mono hj hji)
        simp only [if_neg hjc] at h1
        have hno : ∀ e ∈ oj.after, Region.binds .any e = true → e.on ≠ i := fun e he hb heq => hun1 (heq ▸ hall e he hb)
        have hap := hfree j oj hoj hji hun hno
        obtain ⟨_, _, p3⟩ := Oper.apart_spec hap
        have hsi : ∀ cs b, oi.op ≠ .select cs b := fun cs b => hsel i oi cs b hi
        have h2 := carry (Yl P ops S oi v) (fun b u hb => ⟨hb.1.of_same (execOp_put oi hsi b oj.dst u p3) (wanted_put oi b oj.dst u p3), fun w => by rw [about_put oi w b oj.dst u p3]; exact hb.2 w⟩) (fun b d hb => ⟨hb.1.of_same rfl rfl, hb.2⟩) (fun c => hdef j oj c hoj) hoj hap (fun cs b => hsel j oj cs b hoj) hQ hy h1
        refine wpOpIn_mono (fun a' w' h3 => ⟨h3.2.1, wpAll_take hdef hi hsel hQ hc hic k _ a' w' (fun m om hm hmi hmu hmn => hfree m om hm hmi ?_ hmn) (hd.put hj) (ready_mono hr (Ne.symm hji)) h3.1 h3.2.1 ?_⟩) h2
        · by_cases hjm : j = m
          · subst hjm
            exact hun
          · rwa [getD_set_ne true hjm] at hmu
        · rw [Array.setIfInBounds_comm _ _ hji]
          exact h3.2.2

/-- Behind the round: each comes up alone. -/
def okTail (ops : Array Oper) : List Nat → Array Bool → Bool
  | [], l => (Region.ready .any ops l).isEmpty
  | i :: is, l => Region.ready .any ops l == [i] && okTail ops is (l.setIfInBounds i true)
def wpTail (F : Fence) (n : Nat) (P : Program) (ops : Array Oper) (Q : Exit → Act → World → Prop) : List (Option Oper) → Act → World → Prop
  | [], a, w => Q .normal a w
  | none :: _, _, _ => False
  | some o :: is, a, w => ∀ K : Act → World → Prop, Shut (∀ a w, wpTail F n P ops Q is a w → K a w) → if Region.wanted o (yielded ops a.tmps) = true then Oper.wpIn F n P o a w K Q else (∀ f, o.about P w a.eval = some f → F.fn f) ∧ K (a.put o.dst undef) w
theorem any_tail : ∀ (is : List Nat) (l : Array Bool) (a : Act) (w : World), okTail ops is l = true → wpTail F n P ops Q (is.map fun i => ops[i]?) a w → wpAnyIn F n P .any ops Q is.length l a w
  | [], l, a, w, hc, h => by
    simp only [okTail, List.isEmpty_iff] at hc
    exact ⟨hc, h⟩
  | i :: is, l, a, w, hc, h => by
    simp only [okTail, Bool.and_eq_true, beq_iff_eq] at hc
    obtain ⟨hr, hc⟩ := hc
    rw [List.map_cons] at h
    refine ⟨fun h0 => absurd (hr.symm.trans h0) (by simp), fun j hj => ?_⟩
    rw [hr, List.mem_singleton] at hj
    subst hj
    cases ho : ops[j]? with
    | none =>
      rw [ho] at h
      exact h.elim
    | some o =>
      rw [ho] at h
      exact wpOpIn_step ho (fun K hK => h K (fun a w hW => hK a w (any_tail is _ a w hc hW)))

/-- No deferred call. -/
def noDefer (ops : Array Oper) : Bool := ops.all fun o => match o.op with | .defer _ => false | _ => true
theorem noDefer_spec (h : noDefer ops = true) (j : Nat) (o : Oper) (c : Call) (ho : ops[j]? = some o) : o.op ≠ .defer c := fun e => by
  have := (Array.all_eq_true_iff_forall_mem.1 h) o (Array.mem_of_getElem? ho)
  rw [e] at this
  cases this
/-- The order serves: operations that are taken (each waited for by the round, and apart from all), or done alone; then the round; then the rest. -/
def okSeq (ops : Array Oper) (c : Nat) (ts : List Nat) : List (Nat × Bool) → Array Bool → Bool
  | [], l => Region.ready .any ops l == [c] && okTail ops ts (l.setIfInBounds c true)
  | (i, t) :: is, l => (Region.ready .any ops l).contains i && (if t then Region.free .any ops l i && reach ops i ops.size c else Region.ready .any ops l == [i]) && (i != c) && okSeq ops c ts is (l.setIfInBounds i true)
def wpSeq (F : Fence) (n : Nat) (P : Program) (ops : Array Oper) (Q : Exit → Act → World → Prop) (S : World → Prop) (ts : List (Option Oper)) : List (Bool × Option Oper) → Act → World → Prop
  | [], a, w => wpTail F n P ops Q ts a w
  | (_, none) :: _, _, _ => False
  | (true, some o) :: is, a, w => ∃ v, Yl P ops S o v a ∧ wpSeq F n P ops Q S ts is (a.put o.dst v) w
  | (false, some o) :: is, a, w => ∀ K : Act → World → Prop, Shut (∀ a w, S w → (S w → wpSeq F n P ops Q S ts is a w) → K a w) → if Region.wanted o (yielded ops a.tmps) = true then Oper.wpIn F n P o a w K Q else (∀ f, o.about P w a.eval = some f → F.fn f) ∧ K (a.put o.dst undef) w

theorem wpAll_seq {c : Nat} {ts : List Nat} (hdef : noDefer ops = true) (hs : Region.noSelect ops = true) (hQ : ∀ c a (d : Option Tmp) v w, Q (.panic c) (a.put d v) w → Q (.panic c) a w) : ∀ (is : List (Nat × Bool)) (l : Array Bool) (a : Act) (w : World), okSeq ops c ts is l = true → Dcl ops l → S w →
    wpSeq F n P ops Q S ((c :: ts).map fun i => ops[i]?) (is.map fun x => (x.2, ops[x.1]?)) a w → wpAll F n P ops Q c S (is.length + (ts.length + 1)) l a w
  | [], l, a, w, hc, hd, hS, h => by
    simp only [okSeq, Bool.and_eq_true, beq_iff_eq] at hc
    obtain ⟨hr, hc⟩ := hc
    have h : wpTail F n P ops Q ((c :: ts).map fun i => ops[i]?) a w := h
    rw [List.map_cons] at h
    rw [List.length_nil, Nat.zero_add]
    refine ⟨fun h0 => absurd (hr.symm.trans h0) (by simp), fun j hj => ?_⟩
    rw [hr, List.mem_singleton] at hj
    subst hj
    cases ho : ops[j]? with
    | none =>
      rw [ho] at h
      exact h.elim
    | some o =>
      rw [ho] at h
      refine wpOpIn_step ho (fun K hK => h K (fun a w hW => hK a w ?_))
      rw [if_pos rfl]
      exact any_tail ts _ a w hc hW
  | (i, t) :: is, l, a, w, hc, hd, hS, h => by
    simp only [okSeq, Bool.and_eq_true, bne_iff_ne, ne_eq] at hc
    obtain ⟨⟨⟨hr, hf⟩, hic⟩, hc⟩ := hc
    simp only [List.map_cons] at h
    have hr' : i ∈ Region.ready .any ops l := by simpa using hr
    rw [List.length_cons, Nat.add_right_comm]
    cases ho : ops[i]? with
    | none =>
      rw [ho] at h
      cases t <;> exact h.elim
    | some o =>
      rw [ho] at h
      cases t with
      | true =>
        simp only [if_true, Bool.and_eq_true] at hf
        obtain ⟨v, hy, hk⟩ := h
        exact wpAll_take (noDefer_spec hdef) ho (Region.noSelect_spec hs) (fun c a w => hQ c a _ _ w) hf.2 hic _ _ _ _ (Region.free_spec ho hf.1) hd hr' hy hS (wpAll_seq hdef hs hQ is _ _ _ hc (hd.put hr') hS hk)
      | false =>
        simp only [Bool.false_eq_true, if_false, beq_iff_eq] at hf
        refine ⟨fun h0 => absurd (hf.symm.trans h0) (by simp), fun j hj => ?_⟩
        rw [hf, List.mem_singleton] at hj
        subst hj
        refine wpOpIn_step ho (fun K hK => h K (fun a w hS hW => hK a w ?_))
        rw [if_neg hic]
        exact ⟨hS, wpAll_seq hdef hs hQ is _ a w hc (hd.put hr') hS (hW hS)⟩

/-- The beginning. -/
theorem wpIn_region_seq {id : Nat} {a : Act} {w : World} (is : List (Nat × Bool)) (c : Nat) (ts : List Nat) (S : World → Prop) (hm : P.follows .mixedOrders = true)
    (hc : (noDefer ops && Region.noSelect ops && is.length + (ts.length + 1) == ops.size && okSeq ops c ts is (Array.replicate ops.size false)) = true) (hS : S w.drew)
    (h : wpSeq F n P ops (NoPanic Q) S ((c :: ts).map fun i => ops[i]?) (is.map fun x => (x.2, ops[x.1]?)) a w.drew) : (Code.region id ops true).wpIn F n P Q a w := by
  simp only [Bool.and_eq_true, beq_iff_eq] at hc
  obtain ⟨⟨⟨hdef, hs⟩, hl⟩, hc⟩ := hc
  have hd : Dcl ops (Array.replicate ops.size false) := fun m _ _ h => by
    by_cases hm : m < ops.size
    · simp [hm] at h
    · simp [hm] at h
  have := wpAll_seq (F := F) (n := n) (P := P) (Q := NoPanic Q) hdef hs (fun _ _ _ _ _ h => h) is _ a _ hc hd hS h
  rw [hl] at this
  exact Code.wpIn_mono NoPanic.imp (wpIn_region_any hm (wpAll_any _ _ _ _ this))

theorem si_take {o : Oper} {v : Value} {ts : List (Option Oper)} {is : List (Bool × Option Oper)} {a : Act} {w : World} (hw : Region.wanted o (yielded ops a.tmps) = true) (hb : ∀ w, o.about P w a.eval = none) (hy : ∀ w, S w → (execOp a.eval o).run P w = .ok (.value v) w)
    (h : wpSeq F n P ops Q S ts is (a.put o.dst v) w) : wpSeq F n P ops Q S ts ((true, some o) :: is) a w := ⟨v, ⟨.inl ⟨hw, hy⟩, hb⟩, h⟩
theorem si_skip {o : Oper} {ts : List (Option Oper)} {is : List (Bool × Option Oper)} {a : Act} {w : World} (hw : Region.wanted o (yielded ops a.tmps) = false) (hb : ∀ w, o.about P w a.eval = none)
    (h : wpSeq F n P ops Q S ts is (a.put o.dst undef) w) : wpSeq F n P ops Q S ts ((true, some o) :: is) a w := ⟨undef, ⟨.inr ⟨hw, rfl⟩, hb⟩, h⟩
theorem si_mid {o : Oper} {ts : List (Option Oper)} {is : List (Bool × Option Oper)} {a : Act} {w : World} (h : ∀ K : Act → World → Prop, Shut (∀ a w, S w → (S w → wpSeq F n P ops Q S ts is a w) → K a w) → if Region.wanted o (yielded ops a.tmps) = true then Oper.wpIn F n P o a w K Q else (∀ f, o.about P w a.eval = some f → F.fn f) ∧ K (a.put o.dst undef) w) :
    wpSeq F n P ops Q S ts ((false, some o) :: is) a w := h
theorem si_round {ts : List (Option Oper)} {a : Act} {w : World} (h : wpTail F n P ops Q ts a w) : wpSeq F n P ops Q S ts [] a w := h
theorem si_do {o : Oper} {is : List (Option Oper)} {a : Act} {w : World} (h : ∀ K : Act → World → Prop, Shut (∀ a w, wpTail F n P ops Q is a w → K a w) → if Region.wanted o (yielded ops a.tmps) = true then Oper.wpIn F n P o a w K Q else (∀ f, o.about P w a.eval = some f → F.fn f) ∧ K (a.put o.dst undef) w) :
    wpTail F n P ops Q (some o :: is) a w := h
theorem si_done {a : Act} {w : World} (h : Q .normal a w) : wpTail F n P ops (NoPanic Q) [] a w := h
end
end Go.Proofs.Ytmheabnpkbhadaa.Si
