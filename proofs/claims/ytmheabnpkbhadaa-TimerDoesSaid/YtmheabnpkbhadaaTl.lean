/- The row of timers in the heap: its slice may begin in the midst of its block; what stores of many cells do to a block. -/
import Derived.Test.YtmheabnpkbhadaaChecked
import Derived.Test.YtmheabnpkbhadaaTp
import Derived.Test.YtmheabnpkbhadaaSq
import Derived.Test.YtmheabnpkbhadaaCk2
import Derived.Laws.IdiomCopy
import Derived.Laws.AppendOwn
import Derived.Lib.Hide
import Derived.IntWalk
import Derived.Shelf.Abstract
namespace Go.Proofs.Ytmheabnpkbhadaa.Tl
open Go.RowKit Go.Proofs.Ytmheabnpkbhadaa.Bk Go.Proofs.Ytmheabnpkbhadaa.Kp Go.Proofs.Ytmheabnpkbhadaa.Rw Go.Proofs.Ytmheabnpkbhadaa.Tp
/-- A row of timers, as cells. -/
def cel (l : List One) : List Value := l.flatMap fun x => [.int .i64 x.1, .int .i64 x.2]
theorem cel_append (l m : List One) : cel (l ++ m) = cel l ++ cel m := by simp [cel]
theorem cel_one (x : One) : cel [x] = [.int .i64 x.1, .int .i64 x.2] := rfl
theorem cel_cons (x : One) (l : List One) : cel (x :: l) = .int .i64 x.1 :: .int .i64 x.2 :: cel l := rfl
theorem cel_length : ∀ (l : List One), (cel l).length = l.length * 2
  | [] => rfl
  | x :: l => by rw [cel_cons, List.length_cons, List.length_cons, cel_length l, List.length_cons]; omega
theorem cel_drop : ∀ (l : List One) (i : Nat), cel (l.drop i) = (cel l).drop (i * 2)
  | [], i => by simp [cel]
  | x :: l, 0 => by simp
  | x :: l, i + 1 => by
    rw [List.drop_succ_cons, cel_drop l i, cel_cons, show (i + 1) * 2 = i * 2 + 1 + 1 by omega, List.drop_succ_cons, List.drop_succ_cons]
theorem cel_take : ∀ (l : List One) (i : Nat), cel (l.take i) = (cel l).take (i * 2)
  | [], i => by simp [cel]
  | x :: l, 0 => by simp [cel]
  | x :: l, i + 1 => by
    rw [List.take_succ_cons, cel_cons, cel_take l i, cel_cons, show (i + 1) * 2 = i * 2 + 1 + 1 by omega, List.take_succ_cons, List.take_succ_cons]
theorem cel_one' : ∀ (l : List One), ∀ v ∈ cel l, v.oneCell' = true := by
  intro l v hv
  obtain ⟨x, _, hx⟩ := List.mem_flatMap.1 hv
  simp at hx
  rcases hx with rfl | rfl <;> rfl
theorem cel_at : ∀ (l : List One) (j : Nat), j < l.length → (cel l)[j * 2]? = some (.int .i64 (l.getD j (0, 0)).1) ∧ (cel l)[j * 2 + 1]? = some (.int .i64 (l.getD j (0, 0)).2)
  | [], j, h => absurd h (by simp)
  | x :: l, 0, _ => ⟨rfl, rfl⟩
  | x :: l, j + 1, h => by
    have hh := cel_at l j (by simpa using h)
    rw [cel_cons, show (j + 1) * 2 = j * 2 + 1 + 1 by omega]
    exact hh

/-- Cells of a block, set one by one. -/
def lay (C : Array Value) : Nat → List Value → Array Value
  | _, [] => C
  | o, v :: r => lay (C.setIfInBounds o v) (o + 1) r
theorem lay_size : ∀ (vs : List Value) (C : Array Value) (o : Nat), (lay C o vs).size = C.size
  | [], _, _ => rfl
  | v :: r, C, o => by rw [lay, lay_size r]; simp
theorem lay_out : ∀ (vs : List Value) (C : Array Value) (o k : Nat), (k < o ∨ o + vs.length ≤ k) → (lay C o vs)[k]? = C[k]?
  | [], _, _, _, _ => rfl
  | v :: r, C, o, k, h => by
    rw [lay, lay_out r _ (o + 1) k (by simp at h; omega)]
    simp at h
    rw [Array.getElem?_setIfInBounds_ne (by omega)]
theorem lay_in : ∀ (vs : List Value) (C : Array Value) (o j : Nat), j < vs.length → o + vs.length ≤ C.size → (lay C o vs)[o + j]? = vs[j]?
  | [], _, _, j, h, _ => absurd h (by simp)
  | v :: r, C, o, 0, h, hs => by
    simp at hs
    rw [lay, lay_out r _ (o + 1) _ (by omega), Nat.add_zero, Array.getElem?_setIfInBounds_self_of_lt (by omega)]
    rfl
  | v :: r, C, o, j + 1, h, hs => by
    rw [lay, show o + (j + 1) = o + 1 + j by omega, lay_in r _ (o + 1) j (by simpa using h) (by simp at hs ⊢; omega)]
    rfl
/-- These cells lie in an array from o on. -/
def At (C : Array Value) (o : Nat) (vs : List Value) : Prop := ∀ j v, vs[j]? = some v → C[o + j]? = some v
theorem At.fits {C : Array Value} {o : Nat} {vs : List Value} (h : At C o vs) (h0 : 0 < vs.length) : o + vs.length ≤ C.size := by
  have := h (vs.length - 1) _ (List.getElem?_eq_getElem (by omega))
  have := (Array.getElem?_eq_some_iff.1 this).1
  omega
theorem at_lay {C : Array Value} {o : Nat} {vs : List Value} (h : o + vs.length ≤ C.size) : At (lay C o vs) o vs := fun j v hv => by
  rw [lay_in vs C o j (List.getElem?_eq_some_iff.1 hv).1 h, hv]
theorem At.apart {C : Array Value} {o o' : Nat} {vs us : List Value} (h : At C o vs) (ha : o + vs.length ≤ o' ∨ o' + us.length ≤ o) : At (lay C o' us) o vs := fun j v hv => by
  have hj := (List.getElem?_eq_some_iff.1 hv).1
  rw [lay_out us C o' (o + j) (by omega)]
  exact h j v hv
theorem At.app {C : Array Value} {o : Nat} {vs us : List Value} (h : At C o vs) (h2 : At C (o + vs.length) us) : At C o (vs ++ us) := fun j v hv => by
  by_cases hj : j < vs.length
  · rw [List.getElem?_append_left hj] at hv
    exact h j v hv
  · rw [List.getElem?_append_right (by omega)] at hv
    have := h2 _ v hv
    rwa [show o + vs.length + (j - vs.length) = o + j by omega] at this
theorem At.fst {C : Array Value} {o : Nat} {vs us : List Value} (h : At C o (vs ++ us)) : At C o vs := fun j v hv => h j v (by rw [List.getElem?_append_left (List.getElem?_eq_some_iff.1 hv).1]; exact hv)
theorem At.snd {C : Array Value} {o : Nat} {vs us : List Value} (h : At C o (vs ++ us)) : At C (o + vs.length) us := fun j v hv => by
  have := h (vs.length + j) v (by rw [List.getElem?_append_right (by omega), Nat.add_sub_cancel_left]; exact hv)
  rwa [← Nat.add_assoc] at this
theorem At.take {C : Array Value} {o : Nat} {vs : List Value} (h : At C o vs) (n : Nat) : At C o (vs.take n) := by
  rw [← List.take_append_drop n vs] at h
  exact h.fst
theorem At.drop {C : Array Value} {o : Nat} {vs : List Value} (h : At C o vs) (n : Nat) (hn : n ≤ vs.length) : At C (o + n) (vs.drop n) := by
  rw [← List.take_append_drop n vs] at h
  have := h.snd
  rwa [List.length_take, Nat.min_eq_left hn] at this
theorem blk_setCells {g : Nat} {t : TypeId} : ∀ (vs : List Value) (w : World) (C : Array Value) (o : Nat), Blk w g t C → Blk (w.setCells g o vs) g t (lay C o vs)
  | [], _, _, _, h => h
  | v :: r, _, _, o, h => blk_setCells r _ _ (o + 1) (h.set_ o v)
theorem kp_setCells {S : Nat → Prop} {g : Nat} {w0 : World} : ∀ (vs : List Value) (w : World) (o : Nat), Kp S w0 w → (S g ∨ w0.heap.size ≤ g) → Kp S w0 (w.setCells g o vs)
  | [], _, _, h, _ => h
  | v :: r, _, o, h, hg => kp_setCells r _ (o + 1) (h.set_ ⟨g, o, none⟩ hg v) hg

/-- A slice of timers: block q, from o on. -/
def Rs (w : World) (v : Value) (q : Nat) (l : List One) : Prop :=
  ∃ o c C, v = .slice (some ⟨q, o, none⟩) l.length c ∧ Blk w q 51 C ∧ l.length ≤ c ∧ c ≤ maxLen ∧ o + c * 2 ≤ C.size ∧ At C o (cel l)
theorem Rs.lt {w : World} {v : Value} {q : Nat} {l : List One} (h : Rs w v q l) : q < w.heap.size := by
  obtain ⟨o, c, C, _, hb, _⟩ := h
  exact hb.lt
theorem Rs.kp {S : Nat → Prop} {w w' : World} {v : Value} {q : Nat} {l : List One} (h : Rs w v q l) (hk : Kp S w w') (hq : ¬ S q) : Rs w' v q l := by
  obtain ⟨o, c, C, h1, hb, h2⟩ := h
  exact ⟨o, c, C, h1, blk_kp hb hk hq, h2⟩
theorem Rs.keeps {w w' : World} {v : Value} {q : Nat} {l : List One} (h : Rs w v q l) (hk : Below w.heap.size w w') : Rs w' v q l := by
  obtain ⟨o, c, C, h1, hb, h2⟩ := h
  exact ⟨o, c, C, h1, hb.keeps hk, h2⟩
/-- A slice of timers, nil let in. -/
def Rn (w : World) (v : Value) (q : Nat) (l : List One) : Prop := (v = .slice none 0 0 ∧ l = []) ∨ Rs w v q l
theorem Rn.kp {S : Nat → Prop} {w w' : World} {v : Value} {q : Nat} {l : List One} (h : Rn w v q l) (hk : Kp S w w') (hq : ¬ S q) : Rn w' v q l := h.imp id fun h => h.kp hk hq
theorem Rn.keeps {w w' : World} {v : Value} {q : Nat} {l : List One} (h : Rn w v q l) (hk : Below w.heap.size w w') : Rn w' v q l := h.imp id fun h => h.keeps hk
/-- As a slice that is read. -/
theorem Rn.form {w : World} {v : Value} {q : Nat} {l : List One} (h : Rn w v q l) : ∃ A c, v = .slice A l.length c ∧ l.length ≤ c ∧ c ≤ maxLen ∧ (0 < l.length → ∃ o, A = some ⟨q, o, none⟩ ∧ q < w.heap.size ∧ ∀ j, j < l.length → w.cell? ⟨q, o + j * 2, none⟩ = some (.int .i64 (l.getD j (0, 0)).1) ∧ w.cell? ⟨q, o + j * 2 + 1, none⟩ = some (.int .i64 (l.getD j (0, 0)).2)) := by
  rcases h with ⟨rfl, rfl⟩ | ⟨o, c, C, rfl, hb, h1, h2, h3, h4⟩
  · exact ⟨none, 0, rfl, Nat.le_refl _, by unfold maxLen; omega, fun h => absurd h (by simp)⟩
  · refine ⟨_, c, rfl, h1, h2, fun _ => ⟨o, rfl, hb.lt, fun j hj => ?_⟩⟩
    obtain ⟨e1, e2⟩ := cel_at l j hj
    rw [hb.cell, hb.cell, Nat.add_assoc]
    exact ⟨h4 _ _ e1, h4 _ _ e2⟩

/-- Where the first that .. stands; -1: none. -/
def idx (p : One → Bool) : List One → Int
  | [] => -1
  | x :: l => if p x then 0 else if idx p l < 0 then -1 else idx p l + 1
theorem idx_spec (p : One → Bool) : ∀ (l : List One), (idx p l = -1 ∧ ∀ x ∈ l, p x = false) ∨ ∃ i : Nat, idx p l = i ∧ i < l.length ∧ p (l.getD i (0, 0)) = true ∧ ∀ j, j < i → p (l.getD j (0, 0)) = false
  | [] => .inl ⟨rfl, by simp⟩
  | x :: l => by
    by_cases hx : p x = true
    · exact .inr ⟨0, by simp [idx, hx], by simp, by simpa using hx, fun j hj => absurd hj (by omega)⟩
    · have hx : p x = false := by simpa using hx
      rcases idx_spec p l with ⟨h1, h2⟩ | ⟨i, h1, h2, h3, h4⟩
      · refine .inl ⟨by simp [idx, hx, h1], fun y hy => ?_⟩
        rcases List.mem_cons.1 hy with rfl | hy
        · exact hx
        · exact h2 y hy
      · refine .inr ⟨i + 1, ?_, by simpa using h2, by simpa using h3, fun j hj => ?_⟩
        · simp only [idx, hx, h1]
          rw [if_neg (by simp), if_neg (by omega)]
          omega
        · rcases j with _ | j
          · simpa using hx
          · simpa using h4 j (by omega)
theorem idx_hit (p : One → Bool) (l : List One) (i : Nat) (hi : i < l.length) (h : p (l.getD i (0, 0)) = true) (h2 : ∀ j, j < i → p (l.getD j (0, 0)) = false) : idx p l = i := by
  rcases idx_spec p l with ⟨h3, h4⟩ | ⟨k, h3, h4, h5, h6⟩
  · exfalso
    have := h4 (l.getD i (0, 0)) (by rw [List.getD_eq_getElem?_getD, List.getElem?_eq_getElem hi]; exact List.getElem_mem hi)
    rw [this] at h
    cases h
  · rw [h3]
    rcases Nat.lt_trichotomy i k with hlt | rfl | hgt
    · rw [h6 i hlt] at h; cases h
    · rfl
    · rw [h2 k hgt] at h5; cases h5
theorem idx_miss (p : One → Bool) (l : List One) (h : ∀ j, j < l.length → p (l.getD j (0, 0)) = false) : idx p l = -1 := by
  rcases idx_spec p l with ⟨h3, _⟩ | ⟨k, _, h4, h5, _⟩
  · exact h3
  · rw [h k h4] at h5; cases h5
set_option maxHeartbeats 2000000 in
/-- slices.IndexFunc. -/
theorem index_ok (g : Nat) (lb : Array Value) (p : One → Bool) (eg : ∀ args w, (callFunc g args).run Try.prog w = .ok (.enter g args) w) (v : Value) (q : Nat) (l : List One) (w : World) (hR : Rn w v q l)
    (hp : ∀ (W : World) (x : One), Below w.heap.size w W → Calls Try.prog g (#[.agg #[.int .i64 x.1, .int .i64 x.2]] ++ lb) W fun e w' => e = .returned (.bool (p x)) ∧ Below w.heap.size w w') :
    Calls Try.prog 19 #[v, .func (.func g) #[] lb] w fun e w' => e = .returned (.int .i64 (idx p l)) ∧ Below w.heap.size w w' := by
  obtain ⟨A, c, rfl, hc, hm, hcells⟩ := hR.form
  obtain ⟨N, hN⟩ : ∃ N, l.length = N := ⟨_, rfl⟩
  rw [hN] at hc hcells ⊢
  have HC := Lib.hid hcells
  have HP := Lib.hid hp
  unfold maxLen at hm
  have HM := Lib.hid hm
  clear hcells hp hm hR
  go_enter Try.func19, Try.ntmps19
  go_wp2
  go_loopw [5, 8] (fun _ s8 wr => ∃ k : Nat, k ≤ N ∧ s8 = .int .i64 k ∧ Below w.heap.size w wr ∧ ∀ j, j < k → p (l.getD j (0, 0)) = false) (fun _ s8 _ => N - (intOf s8).toNat)
  case atStart => exact ⟨0, Nat.zero_le _, rfl, Below.refl _ w, fun j hj => absurd hj (Nat.not_lt_zero _)⟩
  case round =>
    obtain ⟨k, hk, rfl, hb, ha⟩ := hrel
    have HM := HM.out
    have HB := Lib.hid hb
    have HA := Lib.hid ha
    clear hb ha
    by_cases hlt : k < N
    · have n1 : (k : Int) < (N : Int) := by omega
      obtain ⟨o, rfl, hq, hcc⟩ := HC.out (by omega)
      have hx1 := (HB.out.cell (p := ⟨q, o + k * 2, none⟩) hq).trans (hcc k hlt).1
      have hx2 := (HB.out.cell (p := ⟨q, o + k * 2 + 1, none⟩) hq).trans (hcc k hlt).2
      have hcall := HP.out wr (l.getD k (0, 0)) HB.out
      obtain ⟨x, hx⟩ : ∃ x, l.getD k (0, 0) = x := ⟨_, rfl⟩
      rw [hx] at hx1 hx2 hcall
      have HX := Lib.hid hx
      clear hcc hq hx HC HP
      cases hq : p x with
      | true =>
        rw [hq] at hcall
        go_wp2_with (go_at_fn g; refine hcall.mono ?_; rintro e w' ⟨rfl, hb'⟩)
        go_ret
        refine ⟨?_, hb'⟩
        rw [idx_hit p l k (by omega) (by rw [HX.out]; exact hq) HA.out]
        rfl
      | false =>
        rw [hq] at hcall
        go_wp2_with (go_at_fn g; refine hcall.mono ?_; rintro e w' ⟨rfl, hb'⟩)
        go_roundw
        case rel =>
          refine ⟨k + 1, by omega, by go_num, hb', fun j hj => ?_⟩
          by_cases e : j = k
          · subst e
            rw [HX.out]; exact hq
          · exact HA.out j (by omega)
        case measure => simp [intOf]; omega
    · have hk : k = N := by omega
      subst hk
      have HE := Lib.hid (idx_miss p l (by rw [hN]; exact HA.out))
      go_wp2
      go_ret
      exact ⟨by rw [HE.out]; rfl, HB.out⟩
end Go.Proofs.Ytmheabnpkbhadaa.Tl
