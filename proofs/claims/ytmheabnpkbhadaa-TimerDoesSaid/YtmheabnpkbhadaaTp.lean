/- The row of timers, as a list: what is due when. -/
import Derived.Test.YtmheabnpkbhadaaKp
namespace Go.Proofs.Ytmheabnpkbhadaa.Tp
/-- When, and what. -/
abbrev One := Int × Int
def out (w : Int) (l : List One) : List One := l.filter fun x => !(x.2 == w)
def ins (t w : Int) (l : List One) : List One := l.takeWhile (fun x => decide (x.1 ≤ t)) ++ (t, w) :: l.dropWhile (fun x => decide (x.1 ≤ t))
def put (l : List One) (t w : Int) : List One := if (out w l).length = 16 then out w l else ins t w (out w l)
def dues (l : List One) (now : Int) : List Int := (l.takeWhile fun x => decide (x.1 ≤ now)).map (·.2)
def left (l : List One) (now : Int) : List One := l.dropWhile fun x => decide (x.1 ≤ now)
theorem due_left {now later : Int} (h : now ≤ later) : ∀ (l : List One), dues l now ++ dues (left l now) later = dues l later ∧ left (left l now) later = left l later
  | [] => ⟨rfl, rfl⟩
  | x :: l => by
    obtain ⟨h1, h2⟩ := due_left h l
    unfold dues left at *
    by_cases hx : x.1 ≤ now
    · have hl : x.1 ≤ later := Int.le_trans hx h
      simp only [List.takeWhile_cons, List.dropWhile_cons, decide_eq_true hx, decide_eq_true hl, if_true, List.map_cons, List.cons_append]
      exact ⟨by rw [h1], h2⟩
    · have e1 : (x :: l).takeWhile (fun x => decide (x.1 ≤ now)) = [] := by simp [hx]
      have e2 : (x :: l).dropWhile (fun x => decide (x.1 ≤ now)) = x :: l := by simp [hx]
      rw [e1, e2]
      exact ⟨rfl, rfl⟩
theorem ins_length (t w : Int) (l : List One) : (ins t w l).length = l.length + 1 := by
  unfold ins
  rw [List.length_append, List.length_cons, ← Nat.add_assoc, ← List.length_append, List.takeWhile_append_dropWhile]
theorem ins_cons (t w : Int) (x : One) (l : List One) : ins t w (x :: l) = if x.1 ≤ t then x :: ins t w l else (t, w) :: x :: l := by
  unfold ins
  by_cases h : x.1 ≤ t
  · simp [h]
  · simp [h]
theorem mem_ins (t w : Int) (y : One) : ∀ (l : List One), y ∈ ins t w l ↔ y = (t, w) ∨ y ∈ l
  | [] => by simp [ins]
  | x :: l => by
    rw [ins_cons]
    split
    · rw [List.mem_cons, mem_ins t w y l, List.mem_cons]
      exact ⟨fun h => by rcases h with h | h | h <;> simp [h], fun h => by rcases h with h | h | h <;> simp [h]⟩
    · simp
/-- The soonest first. -/
def Srt (l : List One) : Prop := l.Pairwise fun x y => x.1 ≤ y.1
theorem srt_out {l : List One} (h : Srt l) (w : Int) : Srt (out w l) := List.Pairwise.filter _ h
theorem srt_ins (t w : Int) : ∀ {l : List One}, Srt l → Srt (ins t w l)
  | [], _ => List.pairwise_singleton _ _
  | x :: l, h => by
    obtain ⟨h1, h2⟩ := List.pairwise_cons.1 h
    rw [ins_cons]
    split
    · rename_i hx
      refine List.pairwise_cons.2 ⟨fun y hy => ?_, srt_ins t w h2⟩
      rcases (mem_ins t w y l).1 hy with rfl | hy
      · exact hx
      · exact h1 y hy
    · rename_i hx
      refine List.pairwise_cons.2 ⟨fun y hy => ?_, h⟩
      have hx : t < x.1 := Int.lt_of_not_ge hx
      rcases List.mem_cons.1 hy with rfl | hy
      · exact Int.le_of_lt hx
      · have := h1 y hy
        show t ≤ y.1
        omega
theorem srt_put {l : List One} (h : Srt l) (t w : Int) : Srt (put l t w) := by
  unfold put
  split
  · exact srt_out h w
  · exact srt_ins t w (srt_out h w)
theorem srt_left {l : List One} (h : Srt l) (now : Int) : Srt (left l now) := h.sublist (List.dropWhile_sublist _)
end Go.Proofs.Ytmheabnpkbhadaa.Tp
