/- For the laws: rows as the laws set them (pure); two rows side by side. -/
import Derived.Test.YtmheabnpkbhadaaAl
import Derived.Test.YtmheabnpkbhadaaIn
namespace Go.Proofs.Ytmheabnpkbhadaa.Lw
open Go.RowKit Go.Proofs.Ytmheabnpkbhadaa.Bk Go.Proofs.Ytmheabnpkbhadaa.Kp Go.Proofs.Ytmheabnpkbhadaa.Rw Go.Proofs.Ytmheabnpkbhadaa.Ow Go.Proofs.Ytmheabnpkbhadaa.Tp Go.Proofs.Ytmheabnpkbhadaa.Tl Go.Proofs.Ytmheabnpkbhadaa.Tq Go.Proofs.Ytmheabnpkbhadaa.Is Go.Proofs.Ytmheabnpkbhadaa.Se Go.Proofs.Ytmheabnpkbhadaa.Du Go.Proofs.Ytmheabnpkbhadaa.Al
/-- What is set in order, by number. -/
def bl (a : List Int) : Nat → List One
  | 0 => []
  | k + 1 => put (bl a k) (a.getD k 0) k
/-- .. all but one. -/
def bs (a : List Int) (s : Int) : Nat → List One
  | 0 => []
  | k + 1 => if (k : Int) = s then bs a s k else put (bs a s k) (a.getD k 0) k
theorem bl_ok (a : List Int) : ∀ k, Ok (bl a k)
  | 0 => ok_nil
  | k + 1 => ok_put (bl_ok a k) _ _
theorem bs_ok (a : List Int) (s : Int) : ∀ k, Ok (bs a s k)
  | 0 => ok_nil
  | k + 1 => by
    rw [bs]
    split
    · exact bs_ok a s k
    · exact ok_put (bs_ok a s k) _ _
theorem mem_put {l : List One} {t w : Int} {x : One} (h : x ∈ put l t w) : x = (t, w) ∨ x ∈ l := by
  unfold put at h
  split at h
  · exact .inr (mem_out.1 h).1
  · rcases (mem_ins t w x _).1 h with h | h
    · exact .inl h
    · exact .inr (mem_out.1 h).1
theorem bl_mem (a : List Int) : ∀ (k : Nat) (x : One), x ∈ bl a k → ∃ i : Nat, i < k ∧ x = (a.getD i 0, (i : Int))
  | 0, x, h => by simp [bl] at h
  | k + 1, x, h => by
    rcases mem_put h with rfl | h
    · exact ⟨k, by omega, rfl⟩
    · obtain ⟨i, hi, hx⟩ := bl_mem a k x h
      exact ⟨i, by omega, hx⟩
theorem bs_mem (a : List Int) (s : Int) : ∀ (k : Nat) (x : One), x ∈ bs a s k → ∃ i : Nat, i < k ∧ x.2 = (i : Int) ∧ (i : Int) ≠ s
  | 0, x, h => by simp [bs] at h
  | k + 1, x, h => by
    rw [bs] at h
    split at h
    · obtain ⟨i, hi, hx⟩ := bs_mem a s k x h
      exact ⟨i, by omega, hx⟩
    · rename_i hk
      rcases mem_put h with rfl | h
      · exact ⟨k, by omega, rfl, hk⟩
      · obtain ⟨i, hi, hx⟩ := bs_mem a s k x h
        exact ⟨i, by omega, hx⟩
/-- Setting what isn't set, in a row that isn't full. -/
theorem put_new {l : List One} {t w : Int} (h : ∀ x ∈ l, x.2 ≠ w) (hl : l.length < 16) : put l t w = ins t w l ∧ code l w = 0 := by
  have ho : out w l = l := out_none w l fun x hx => beq_eq_false_iff_ne.2 (h x hx)
  unfold put code
  rw [ho, if_neg (by omega), if_neg (by omega)]
  exact ⟨rfl, rfl⟩
theorem bl_step (a : List Int) (k : Nat) (hl : (bl a k).length = k) (hk : k < 16) : bl a (k + 1) = ins (a.getD k 0) k (bl a k) ∧ code (bl a k) k = 0 :=
  put_new (fun x hx e => by
    obtain ⟨i, hi, rfl⟩ := bl_mem a k x hx
    have e : (i : Int) = k := e
    omega) (by omega)
theorem bl_length (a : List Int) : ∀ k, k ≤ 16 → (bl a k).length = k
  | 0, _ => rfl
  | k + 1, h => by
    have ih := bl_length a k (by omega)
    rw [(bl_step a k ih (by omega)).1, ins_length, ih]
theorem out_ins {l : List One} (hs : Srt l) (t w s : Int) : out s (ins t w l) = if w = s then out s l else ins t w (out s l) := by
  induction l with
  | nil => by_cases h : w = s <;> simp [ins, out, h]
  | cons x l ih =>
    obtain ⟨h1, h2⟩ := List.pairwise_cons.1 hs
    have ih := ih h2
    rw [ins_cons]
    by_cases hx : x.1 ≤ t
    · rw [if_pos hx]
      by_cases hxs : x.2 = s
      · have e : ∀ l', out s (x :: l') = out s l' := fun l' => by simp [out, hxs]
        rw [e, e, ih]
      · have e : ∀ l', out s (x :: l') = x :: out s l' := fun l' => by simp [out, hxs]
        rw [e, e, ih]
        split
        · rfl
        · rw [ins_cons, if_pos hx]
    · rw [if_neg hx]
      by_cases hw : w = s
      · rw [if_pos hw]
        simp [out, hw]
      · rw [if_neg hw]
        have e : out s ((t, w) :: x :: l) = (t, w) :: out s (x :: l) := by simp [out, hw]
        rw [e]
        have hb : ∀ y ∈ out s (x :: l), ¬ y.1 ≤ t := fun y hy => by
          rcases List.mem_cons.1 (mem_out.1 hy).1 with rfl | hm
          · exact hx
          · have := h1 y hm; omega
        generalize out s (x :: l) = m at hb
        cases m with
        | nil => rfl
        | cons y m => rw [ins_cons, if_neg (hb y (by simp))]
theorem out_bl (a : List Int) (s : Int) : ∀ k, k ≤ 16 → out s (bl a k) = bs a s k
  | 0, _ => rfl
  | k + 1, h => by
    have ih := out_bl a s k (by omega)
    rw [(bl_step a k (bl_length a k (by omega)) (by omega)).1, out_ins (bl_ok a k).srt, bs, ih]
    split
    · rfl
    · refine (put_new (fun x hx e => ?_) ?_).1.symm
      · obtain ⟨i, hi, h1, _⟩ := bs_mem a s k x hx
        rw [h1] at e
        omega
      · have := out_length s (bl a k)
        rw [ih, bl_length a k (by omega)] at this
        omega
/-- TimerMoves: set again, and set for the first time. -/
theorem moves (a : List Int) (s t : Int) (n : Nat) (hn : n ≤ 16) (h0 : 0 ≤ s) (h1 : s < n) :
    put (bl a n) t s = put (bs a s n) t s ∧ code (bl a n) s = 0 ∧ code (bs a s n) s = 0 ∧ (put (bl a n) t s).length = n := by
  have he := out_bl a s n hn
  have hl : (bs a s n).length < n := by
    obtain ⟨i, rfl⟩ : ∃ i : Nat, s = i := ⟨s.toNat, by omega⟩
    rw [← he]
    have hb := bl_length a n hn
    have : ∃ x ∈ bl a n, x.2 = (i : Int) := by
      have : ∀ k, k ≤ 16 → i < k → ∃ x ∈ bl a k, x.2 = (i : Int) := by
        intro k
        induction k with
        | zero => intro _ h; omega
        | succ k ih =>
          intro hk hi
          rw [(bl_step a k (bl_length a k (by omega)) (by omega)).1]
          by_cases e : i = k
          · subst e
            exact ⟨_, (mem_ins _ _ _ _).2 (.inl rfl), rfl⟩
          · obtain ⟨x, hx, hx2⟩ := ih (by omega) (by omega)
            exact ⟨x, (mem_ins _ _ _ _).2 (.inr hx), hx2⟩
      exact this n hn (by omega)
    obtain ⟨x, hx, hx2⟩ := this
    have h3 : (out (i : Int) (bl a n)).length < (bl a n).length := by
      unfold out
      rw [List.length_filter_lt_length_iff_exists]
      exact ⟨x, hx, by simp [hx2]⟩
    omega
  have hc : code (bl a n) s = 0 := by unfold code; rw [he, if_neg (by omega)]
  have hp : put (bl a n) t s = ins t s (bs a s n) := by unfold put; rw [he, if_neg (by omega)]
  have hq := put_new (l := bs a s n) (t := t) (w := s) (fun x hx e => by
    obtain ⟨i, _, h4, h5⟩ := bs_mem a s n x hx
    rw [h4] at e
    exact h5 e) (by omega)
  refine ⟨hp.trans hq.1.symm, hc, hq.2, ?_⟩
  have hnd := out_length s (bl a n)
  rw [hp, ins_length]
  have : (bl a n).length ≤ (out s (bl a n)).length + 1 := by
    have hn2 := (bl_ok a n).nd
    generalize bl a n = l at hn2
    clear hp hq hc hl he hnd
    induction l with
    | nil => simp
    | cons x l ih =>
      obtain ⟨h2, h3⟩ := List.nodup_cons.1 hn2
      by_cases hx : x.2 = s
      · have e : out s l = l := out_none s l fun y hy => beq_eq_false_iff_ne.2 fun e => h2 (List.mem_map.2 ⟨y, hy, e.trans hx.symm⟩)
        have e2 : out s (x :: l) = out s l := by simp [out, hx]
        rw [e2, e]
        simp
      · have e2 : out s (x :: l) = x :: out s l := by simp [out, hx]
        have := ih h3
        rw [e2]
        simp only [List.length_cons]
        omega
  rw [he, bl_length a n hn] at this
  omega
/-- Two rows side by side, both new. -/
structure R2 (w0 w : World) (A qa : Nat) (la : List One) (B qb : Nat) (lb : List One) : Prop where
  a : RB w A qa la
  b : RB w B qb lb
  n1 : A ≠ B
  n2 : A ≠ qb
  n3 : qa ≠ B
  n4 : qa ≠ qb
  m1 : w0.heap.size ≤ A
  m2 : w0.heap.size ≤ B
  m3 : w0.heap.size ≤ qa
  m4 : w0.heap.size ≤ qb
  bel : Below w0.heap.size w0 w
section
variable {w0 w w' : World} {A qa B qb : Nat} {la lb : List One}
theorem R2.turn (h : R2 w0 w A qa la B qb lb) : R2 w0 w B qb lb A qa la := ⟨h.b, h.a, h.n1.symm, fun e => h.n3 e.symm, fun e => h.n2 e.symm, h.n4.symm, h.m2, h.m1, h.m4, h.m3, h.bel⟩
theorem R2.keeps (h : R2 w0 w A qa la B qb lb) (hb : Below w.heap.size w w') : R2 w0 w' A qa la B qb lb :=
  ⟨h.a.keeps hb, h.b.keeps hb, h.n1, h.n2, h.n3, h.n4, h.m1, h.m2, h.m3, h.m4, h.bel.trans (hb.mono h.bel.size)⟩
theorem R2.kp {S : Nat → Prop} (h : R2 w0 w A qa la B qb lb) (hk : Kp S w w') (hS : ∀ k, S k → w.heap.size ≤ k) : R2 w0 w' A qa la B qb lb :=
  h.keeps ⟨hk.os, hk.tape, hk.output, hk.size, fun k hlt => hk.block k hlt (fun h => by have := hS k h; omega)⟩
theorem R2.kpn {S : Nat → Prop} (h : R2 w0 w A qa la B qb lb) (hk : Kp S w w') (h1 : ¬ S A) (h2 : ¬ S qa) (h3 : ¬ S B) (h4 : ¬ S qb) (hS : ∀ k, S k → w0.heap.size ≤ k) : R2 w0 w' A qa la B qb lb :=
  ⟨h.a.kp hk h1 h2, h.b.kp hk h3 h4, h.n1, h.n2, h.n3, h.n4, h.m1, h.m2, h.m3, h.m4, below_k h.bel h.bel.size hk hS⟩
/-- Behind an append onto a row newer than both. -/
theorem R2.grown {base : Nat} {v : Value} {l : List Int} (h : R2 w0 w A qa la B qb lb) (ho : Oi .i64 3 w base v l) (hg : w.grownBy w' v.ownBlock) (h1 : A < base) (h2 : qa < base) (h3 : B < base) (h4 : qb < base) : R2 w0 w' A qa la B qb lb := by
  have hq := ho.owner
  have hm := h.m1
  refine h.kpn (S := fun k => some k = v.ownBlock) ((Kp.refl _ _).grown hg (fun q e => .inl e.symm)) (fun e => ?_) (fun e => ?_) (fun e => ?_) (fun e => ?_) (fun k e => ?_) <;>
  · have := (hq _ e.symm).1
    omega
theorem R2.set_ (h : R2 w0 w A qa la B qb lb) (hO : Ok la) (t what : Int) :
    Calls Try.prog 8 #[.pointer (some ⟨A, 0, none⟩), .int .i64 t, .int .i64 what] w fun e w' => e = .returned (.int .i64 (code la what)) ∧ ∃ qa', R2 w0 w' A qa' (put la t what) B qb lb := by
  refine (set_ok A qa la t what w h.a hO).mono fun e w' ⟨h1, ⟨q', h2, h3⟩, h4⟩ => ⟨h1, q', ?_⟩
  have hs := h.bel.size
  have hB := h.b.ltr
  have hqb := h.b.ltq
  have n1 := h.n1; have n2 := h.n2; have n3 := h.n3; have n4 := h.n4; have m1 := h.m1; have m3 := h.m3
  exact ⟨h2, h.b.kp h4 (fun e => by rcases e with e | e <;> omega) (fun e => by rcases e with e | e <;> omega), n1, n2, by rcases h3 with h3 | h3 <;> omega, by rcases h3 with h3 | h3 <;> omega, m1, h.m2,
    by rcases h3 with h3 | h3 <;> omega, h.m4, below_k h.bel hs h4 (fun k hk => by rcases hk with rfl | rfl <;> assumption)⟩
theorem R2.due_ (h : R2 w0 w A qa la B qb lb) (hO : Ok la) (now : Int) :
    Calls Try.prog 9 #[.pointer (some ⟨A, 0, none⟩), .int .i64 now] w fun e w' => (∃ v, e = .returned v ∧ Oi .i64 3 w' w.heap.size v (dues la now)) ∧ R2 w0 w' A qa (left la now) B qb lb ∧ Kp (· = A) w w' := by
  refine (due_ok A qa la now w h.a hO.len).mono fun e w' ⟨h1, h2, h3⟩ => ⟨h1, ?_, h3⟩
  have m1 := h.m1
  exact ⟨h2, h.b.kp h3 (fun e => h.n1 e.symm) (fun e => h.n2 e.symm), h.n1, h.n2, h.n3, h.n4, h.m1, h.m2, h.m3, h.m4, below_k h.bel h.bel.size h3 (fun k hk => by subst hk; exact m1)⟩
theorem R2.new (w0 w : World) (hB : Below w0.heap.size w0 w) : R2 w0 ((w.alloc (.cells #[.slice none 0 0] 26)).alloc (.cells #[.slice none 0 0] 26)) w.heap.size w.heap.size [] (w.heap.size + 1) (w.heap.size + 1) [] := by
  have hs := hB.size
  have h2 := RB.new (w.alloc (.cells #[.slice none 0 0] 26))
  rw [World.size_alloc] at h2
  exact ⟨(RB.new w).alloc _, h2, by omega, by omega, by omega, by omega, by omega, by omega, by omega, by omega, (hB.alloc hs _).alloc (by simp; omega) _⟩
end
end Go.Proofs.Ytmheabnpkbhadaa.Lw
