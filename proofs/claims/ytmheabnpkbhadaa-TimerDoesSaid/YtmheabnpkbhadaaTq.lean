/- Where a timer stands, and what taking it out or laying it in there does: pure. -/
import Derived.Test.YtmheabnpkbhadaaTl
namespace Go.Proofs.Ytmheabnpkbhadaa.Tq
open Go.Proofs.Ytmheabnpkbhadaa.Tp Go.Proofs.Ytmheabnpkbhadaa.Tl
/-- No two timers of one name. -/
def Nd (l : List One) : Prop := (l.map (·.2)).Nodup
theorem nd_nil : Nd [] := List.nodup_nil
theorem out_none (w : Int) (l : List One) (h : ∀ x ∈ l, (x.2 == w) = false) : out w l = l := by
  unfold out
  rw [List.filter_eq_self]
  intro x hx
  simp [h x hx]
theorem out_at (w : Int) : ∀ (l : List One) (i : Nat), Nd l → i < l.length → ((l.getD i (0, 0)).2 == w) = true → l.take i ++ l.drop (i + 1) = out w l
  | [], i, _, h, _ => absurd h (by simp)
  | x :: l, 0, hn, _, h => by
    have hx : (x.2 == w) = true := by simpa using h
    obtain ⟨h1, h2⟩ := List.nodup_cons.1 hn
    have : out w l = l := out_none w l fun y hy => by
      rw [beq_iff_eq] at hx
      rw [beq_eq_false_iff_ne]
      exact fun e => h1 (List.mem_map.2 ⟨y, hy, e.trans hx.symm⟩)
    simp only [out, List.filter_cons, hx] at this ⊢
    simpa using this.symm
  | x :: l, i + 1, hn, hi, h => by
    obtain ⟨h1, h2⟩ := List.nodup_cons.1 hn
    have ih := out_at w l i h2 (by simpa using hi) (by simpa using h)
    have hx : (x.2 == w) = false := by
      rw [beq_eq_false_iff_ne]
      intro e
      have h3 : (l.getD i (0, 0)).2 = w := by simpa using h
      refine h1 (List.mem_map.2 ⟨l.getD i (0, 0), ?_, h3.trans e.symm⟩)
      rw [List.getD_eq_getElem?_getD, List.getElem?_eq_getElem (by simpa using hi)]
      exact List.getElem_mem _
    rw [List.take_succ_cons, List.drop_succ_cons, List.cons_append, ih]
    simp [out, hx]
theorem nd_out {l : List One} (h : Nd l) (w : Int) : Nd (out w l) := List.Nodup.sublist (List.Sublist.map _ List.filter_sublist) h
theorem out_length (w : Int) (l : List One) : (out w l).length ≤ l.length := List.length_filter_le _ _
theorem mem_out {w : Int} {l : List One} {x : One} : x ∈ out w l ↔ x ∈ l ∧ x.2 ≠ w := by simp [out]
theorem nd_ins {t w : Int} : ∀ {l : List One}, Nd l → (∀ x ∈ l, x.2 ≠ w) → Nd (ins t w l)
  | [], _, _ => by simp [ins, Nd]
  | x :: l, h, hw => by
    obtain ⟨h1, h2⟩ := List.nodup_cons.1 h
    rw [ins_cons]
    split
    · refine List.nodup_cons.2 ⟨fun hm => ?_, nd_ins h2 (fun y hy => hw y (by simp [hy]))⟩
      obtain ⟨y, hy, he⟩ := List.mem_map.1 hm
      rcases (mem_ins t w y l).1 hy with rfl | hy
      · exact hw x (by simp) he.symm
      · exact h1 (List.mem_map.2 ⟨y, hy, he⟩)
    · refine List.nodup_cons.2 ⟨fun hm => ?_, h⟩
      obtain ⟨y, hy, he⟩ := List.mem_map.1 hm
      exact hw y hy he
theorem nd_put {l : List One} (h : Nd l) (t w : Int) : Nd (put l t w) := by
  unfold put
  split
  · exact nd_out h w
  · exact nd_ins (nd_out h w) (fun x hx => (mem_out.1 hx).2)
theorem nd_left {l : List One} (h : Nd l) (now : Int) : Nd (left l now) := List.Nodup.sublist (List.Sublist.map _ (List.dropWhile_sublist _)) h
theorem put_length {l : List One} (h : l.length ≤ 16) (t w : Int) : (put l t w).length ≤ 16 := by
  have := out_length w l
  unfold put
  split
  · omega
  · rw [ins_length]; omega
/-- Laid in where the first later one stands. -/
theorem ins_at (t w : Int) : ∀ (l : List One) (i : Nat), i < l.length → (∀ j, j < i → decide ((l.getD j (0, 0)).1 > t) = false) → decide ((l.getD i (0, 0)).1 > t) = true → l.take i ++ (t, w) :: l.drop i = ins t w l
  | [], i, h, _, _ => absurd h (by simp)
  | x :: l, 0, _, _, h => by
    have hx : ¬ x.1 ≤ t := by simpa using h
    rw [ins_cons, if_neg hx]
    rfl
  | x :: l, i + 1, hi, hb, h => by
    have hx : x.1 ≤ t := by simpa using hb 0 (by omega)
    rw [ins_cons, if_pos hx, List.take_succ_cons, List.drop_succ_cons, List.cons_append, ins_at t w l i (by simpa using hi) (fun j hj => by simpa using hb (j + 1) (by omega)) (by simpa using h)]
theorem ins_end (t w : Int) : ∀ (l : List One), (∀ x ∈ l, decide (x.1 > t) = false) → l.take l.length ++ (t, w) :: l.drop l.length = ins t w l
  | [], _ => rfl
  | x :: l, h => by
    have hx : x.1 ≤ t := by simpa using h x (by simp)
    rw [ins_cons, if_pos hx, List.length_cons, List.take_succ_cons, List.drop_succ_cons, List.cons_append, ins_end t w l fun y hy => h y (by simp [hy])]
/-- The row is as it ought to be. -/
structure Ok (l : List One) : Prop where
  nd : Nd l
  srt : Srt l
  len : l.length ≤ 16
theorem ok_nil : Ok [] := ⟨nd_nil, List.Pairwise.nil, by simp⟩
theorem ok_put {l : List One} (h : Ok l) (t w : Int) : Ok (put l t w) := ⟨nd_put h.nd t w, srt_put h.srt t w, put_length h.len t w⟩
theorem ok_out {l : List One} (h : Ok l) (w : Int) : Ok (out w l) := ⟨nd_out h.nd w, srt_out h.srt w, Nat.le_trans (out_length w l) h.len⟩
theorem ok_left {l : List One} (h : Ok l) (now : Int) : Ok (left l now) := ⟨nd_left h.nd now, srt_left h.srt now, Nat.le_trans (List.dropWhile_sublist _).length_le h.len⟩
theorem ok_tail {x : One} {l : List One} (h : Ok (x :: l)) : Ok l := ⟨(List.nodup_cons.1 h.nd).2, (List.pairwise_cons.1 h.srt).2, by have := h.len; simp at this; omega⟩
/-- Set's answer. -/
def code (l : List One) (w : Int) : Int := if (out w l).length = 16 then 6 else 0
end Go.Proofs.Ytmheabnpkbhadaa.Tq
