/- The document's row, pure: in the order of setting; the first that is due; against the row of timers. -/
import Derived.Test.YtmheabnpkbhadaaLw
namespace Go.Proofs.Ytmheabnpkbhadaa.Rp
open Go.Proofs.Ytmheabnpkbhadaa.Tp Go.Proofs.Ytmheabnpkbhadaa.Tl Go.Proofs.Ytmheabnpkbhadaa.Tq Go.Proofs.Ytmheabnpkbhadaa.Se Go.Proofs.Ytmheabnpkbhadaa.Du Go.Proofs.Ytmheabnpkbhadaa.Lw
/-- When, what, and its turn. -/
abbrev Tw := Int × Int × Int
def two (x : Tw) : One := (x.1, x.2.1)
/-- All but one. -/
def fil (s : Int) (M : List Tw) : List Tw := M.filter fun x => x.2.1 != s
/-- In the order of what is due. -/
def srt : List Tw → List One
  | [] => []
  | x :: M => insF x (srt M)
where
  /-- Laid in ahead of what is due no sooner. -/
  insF (x : Tw) : List One → List One
    | [] => [two x]
    | y :: l => if x.1 ≤ y.1 then two x :: y :: l else y :: insF x l
theorem insF_mem (x : Tw) (y : One) : ∀ l : List One, y ∈ srt.insF x l ↔ y = two x ∨ y ∈ l
  | [] => by simp [srt.insF]
  | z :: l => by
    unfold srt.insF
    split
    · simp
    · rw [List.mem_cons, insF_mem x y l, List.mem_cons]
      exact ⟨fun h => by rcases h with h | h | h <;> simp [h], fun h => by rcases h with h | h | h <;> simp [h]⟩
theorem insF_length (x : Tw) : ∀ l : List One, (srt.insF x l).length = l.length + 1
  | [] => rfl
  | z :: l => by
    unfold srt.insF
    split
    · rfl
    · rw [List.length_cons, insF_length x l]; rfl
theorem srt_length : ∀ M : List Tw, (srt M).length = M.length
  | [] => rfl
  | x :: M => by rw [srt, insF_length, srt_length M]; rfl
theorem mem_srt (y : One) : ∀ M : List Tw, y ∈ srt M ↔ ∃ x ∈ M, y = two x
  | [] => by simp [srt]
  | x :: M => by
    rw [srt, insF_mem, mem_srt y M]
    simp
theorem srt_insF (x : Tw) : ∀ {l : List One}, Srt l → Srt (srt.insF x l)
  | [], _ => List.pairwise_singleton _ _
  | z :: l, h => by
    obtain ⟨h1, h2⟩ := List.pairwise_cons.1 h
    unfold srt.insF
    split
    · rename_i hx
      refine List.pairwise_cons.2 ⟨fun y hy => ?_, h⟩
      rcases List.mem_cons.1 hy with rfl | hy
      · exact hx
      · exact Int.le_trans hx (h1 y hy)
    · rename_i hx
      refine List.pairwise_cons.2 ⟨fun y hy => ?_, srt_insF x h2⟩
      rcases (insF_mem x y l).1 hy with rfl | hy
      · show z.1 ≤ x.1
        omega
      · exact h1 y hy
theorem srt_srt : ∀ M : List Tw, Srt (srt M)
  | [] => List.Pairwise.nil
  | x :: M => srt_insF x (srt_srt M)
/-- One set behind all others: laid in behind what is due no later. -/
theorem ins_insF (t w : Int) (x : Tw) : ∀ l : List One, ins t w (srt.insF x l) = srt.insF x (ins t w l)
  | [] => by
    simp only [srt.insF, ins_cons, two]
    by_cases h : x.1 ≤ t
    · rw [if_pos h]
      show (x.1, x.2.1) :: [(t, w)] = srt.insF x [(t, w)]
      simp [srt.insF, h, two]
    · rw [if_neg h]
      show [(t, w), (x.1, x.2.1)] = srt.insF x [(t, w)]
      simp [srt.insF, h, two]
  | y :: l => by
    have ih := ins_insF t w x l
    by_cases h : x.1 ≤ y.1
    · have e1 : srt.insF x (y :: l) = two x :: y :: l := by simp [srt.insF, h]
      rw [e1, ins_cons, ins_cons]
      by_cases h2 : y.1 ≤ t
      · have h3 : (two x).1 ≤ t := Int.le_trans h h2
        rw [if_pos h3, if_pos h2]
        simp [srt.insF, h]
      · rw [if_neg h2]
        by_cases h3 : (two x).1 ≤ t
        · rw [if_pos h3]
          have h3 : x.1 ≤ t := h3
          simp [srt.insF, h3]
        · rw [if_neg h3]
          have h3 : ¬ x.1 ≤ t := h3
          simp [srt.insF, h3, h]
    · have e1 : srt.insF x (y :: l) = y :: srt.insF x l := by simp [srt.insF, h]
      rw [e1, ins_cons, ins_cons]
      by_cases h2 : y.1 ≤ t
      · rw [if_pos h2, if_pos h2, ih]
        simp [srt.insF, h]
      · rw [if_neg h2, if_neg h2]
        have h3 : ¬ x.1 ≤ t := by omega
        simp [srt.insF, h3, h]
theorem srt_snoc (M : List Tw) (x : Tw) : srt (M ++ [x]) = ins x.1 x.2.1 (srt M) := by
  induction M with
  | nil => rfl
  | cons y M ih => rw [List.cons_append, srt, ih, srt, ins_insF]
theorem out_insF (s : Int) (x : Tw) : ∀ {l : List One}, Srt l → out s (srt.insF x l) = if x.2.1 = s then out s l else srt.insF x (out s l)
  | [], _ => by by_cases h : x.2.1 = s <;> simp [srt.insF, out, two, h]
  | y :: l, hs => by
    obtain ⟨h1, h2⟩ := List.pairwise_cons.1 hs
    have ih := out_insF s x h2
    by_cases h : x.1 ≤ y.1
    · have e1 : srt.insF x (y :: l) = two x :: y :: l := by simp [srt.insF, h]
      rw [e1]
      by_cases hx : x.2.1 = s
      · rw [if_pos hx]
        simp [out, two, hx]
      · rw [if_neg hx]
        have e2 : out s (two x :: y :: l) = two x :: out s (y :: l) := by simp [out, two, hx]
        rw [e2]
        have hb : ∀ z ∈ out s (y :: l), x.1 ≤ z.1 := fun z hz => by
          rcases List.mem_cons.1 (mem_out.1 hz).1 with rfl | hm
          · exact h
          · exact Int.le_trans h (h1 z hm)
        generalize out s (y :: l) = m at hb
        cases m with
        | nil => rfl
        | cons z m => simp [srt.insF, hb z (by simp)]
    · have e1 : srt.insF x (y :: l) = y :: srt.insF x l := by simp [srt.insF, h]
      rw [e1]
      by_cases hy : y.2 = s
      · have e2 : ∀ m, out s (y :: m) = out s m := fun m => by simp [out, hy]
        rw [e2, e2, ih]
      · have e2 : ∀ m, out s (y :: m) = y :: out s m := fun m => by simp [out, hy]
        rw [e2, e2, ih]
        split
        · rfl
        · simp [srt.insF, h]
theorem srt_fil (s : Int) : ∀ M : List Tw, srt (fil s M) = out s (srt M)
  | [] => rfl
  | x :: M => by
    have ih := srt_fil s M
    rw [srt, out_insF s x (srt_srt M), ← ih]
    by_cases h : x.2.1 = s
    · rw [if_pos h]
      have : fil s (x :: M) = fil s M := by simp [fil, h]
      rw [this]
    · rw [if_neg h]
      have : fil s (x :: M) = x :: fil s M := by simp [fil, h]
      rw [this, srt]
/-- The first that is due stands at i. -/
structure Fst (M : List Tw) (i : Nat) : Prop where
  lt : i < M.length
  bef : ∀ j, j < i → (M.getD i (0, 0, 0)).1 < (M.getD j (0, 0, 0)).1
  aft : ∀ j, i < j → j < M.length → (M.getD i (0, 0, 0)).1 ≤ (M.getD j (0, 0, 0)).1
theorem fst_head : ∀ (M : List Tw) (i : Nat), Fst M i → ∃ l, srt M = two (M.getD i (0, 0, 0)) :: l
  | [], i, h => absurd h.lt (by simp)
  | x :: M, 0, h => by
    rw [srt]
    cases hM : srt M with
    | nil => exact ⟨[], rfl⟩
    | cons y l =>
      have hy : y ∈ srt M := by rw [hM]; simp
      obtain ⟨z, hz, rfl⟩ := (mem_srt y M).1 hy
      obtain ⟨j, hj, rfl⟩ := List.getElem_of_mem hz
      have := h.aft (j + 1) (by omega) (by simpa using hj)
      have e : ((x :: M).getD (j + 1) (0, 0, 0)).1 = (M[j]).1 := by simp [List.getD_eq_getElem?_getD, hj]
      have e2 : ((x :: M).getD 0 (0, 0, 0)).1 = x.1 := rfl
      rw [e, e2] at this
      exact ⟨two M[j] :: l, by simp [srt.insF, two, this]⟩
  | x :: M, i + 1, h => by
    have hF : Fst M i := ⟨by have := h.lt; simpa using this, fun j hj => by simpa using h.bef (j + 1) (by omega), fun j hj hl => by simpa using h.aft (j + 1) (by omega) (by simpa using hl)⟩
    obtain ⟨l, hl⟩ := fst_head M i hF
    have h0 := h.bef 0 (by omega)
    have e : (x :: M).getD (i + 1) (0, 0, 0) = M.getD i (0, 0, 0) := rfl
    have e2 : (x :: M).getD 0 (0, 0, 0) = x := rfl
    rw [e, e2] at h0
    rw [srt, hl, e]
    refine ⟨srt.insF x l, ?_⟩
    have h1 : ¬ x.1 ≤ (two (M.getD i (0, 0, 0))).1 := by
      show ¬ x.1 ≤ (M.getD i (0, 0, 0)).1
      omega
    simp only [srt.insF]
    rw [if_neg h1]
/-- The document's row is as it ought to be: turns below t, in order; no name twice. -/
structure Md (M : List Tw) (t : Int) : Prop where
  nd : (M.map fun x => x.2.1).Nodup
  trn : M.Pairwise fun x y => x.2.2 < y.2.2
  low : ∀ x ∈ M, x.2.2 ≤ t
  len : M.length ≤ 16
theorem md_nil (t : Int) : Md [] t := ⟨List.nodup_nil, List.Pairwise.nil, by simp, by simp⟩
theorem md_fil {M : List Tw} {t : Int} (h : Md M t) (s : Int) : Md (fil s M) t :=
  ⟨List.Nodup.sublist (List.Sublist.map _ List.filter_sublist) h.nd, List.Pairwise.filter _ h.trn, fun x hx => h.low x (List.mem_filter.1 hx).1, Nat.le_trans (List.length_filter_le _ _) h.len⟩
theorem md_snoc {M : List Tw} {t : Int} (s : Int) (h : Md (fil s M) t) (at_ : Int) (hl : (fil s M).length < 16) : Md (fil s M ++ [(at_, s, t + 1)]) (t + 1) := by
  refine ⟨?_, ?_, fun x hx => ?_, by simp; omega⟩
  · rw [List.map_append, List.nodup_append]
    refine ⟨h.nd, by simp, fun a ha b hb => ?_⟩
    simp at hb
    subst hb
    obtain ⟨x, hx, rfl⟩ := List.mem_map.1 ha
    have := (List.mem_filter.1 hx).2
    simpa using this
  · rw [List.pairwise_append]
    refine ⟨h.trn, by simp, fun x hx y hy => ?_⟩
    simp at hy
    subst hy
    have := h.low x hx
    show x.2.2 < t + 1
    omega
  · rcases List.mem_append.1 hx with hx | hx
    · have := h.low x hx
      omega
    · simp at hx
      subst hx
      show t + 1 ≤ t + 1
      omega
theorem nd_srt {M : List Tw} {t : Int} (h : Md M t) : Nd (srt M) := by
  have hn := h.nd
  clear h
  unfold Nd
  induction M with
  | nil => exact List.nodup_nil
  | cons x M ih =>
    obtain ⟨h1, h2⟩ := List.nodup_cons.1 hn
    have ih := ih h2
    have hx : ∀ y ∈ srt M, y.2 ≠ x.2.1 := fun y hy e => by
      obtain ⟨z, hz, rfl⟩ := (mem_srt y M).1 hy
      exact h1 (List.mem_map.2 ⟨z, hz, e⟩)
    rw [srt]
    generalize srt M = l at ih hx
    clear hn h1 h2
    induction l with
    | nil => simp [srt.insF]
    | cons y l ihl =>
      obtain ⟨h3, h4⟩ := List.nodup_cons.1 ih
      simp only [srt.insF]
      split
      · refine List.nodup_cons.2 ⟨fun hm => ?_, ih⟩
        obtain ⟨z, hz, he⟩ := List.mem_map.1 hm
        exact hx z hz he
      · refine List.nodup_cons.2 ⟨fun hm => ?_, ihl h4 (fun z hz => hx z (by simp [hz]))⟩
        obtain ⟨z, hz, he⟩ := List.mem_map.1 hm
        rcases (insF_mem x z l).1 hz with rfl | hz
        · exact hx y (by simp) he.symm
        · exact h3 (List.mem_map.2 ⟨z, hz, he⟩)
theorem ok_srt {M : List Tw} {t : Int} (h : Md M t) : Ok (srt M) := ⟨nd_srt h, srt_srt M, by rw [srt_length]; exact h.len⟩
/-- Dropping the first. -/
theorem drop_first {M : List Tw} {t : Int} (h : Md M t) {i : Nat} (hF : Fst M i) : ∃ l, srt M = two (M.getD i (0, 0, 0)) :: l ∧ srt (fil (M.getD i (0, 0, 0)).2.1 M) = l := by
  obtain ⟨l, hl⟩ := fst_head M i hF
  refine ⟨l, hl, ?_⟩
  rw [srt_fil, hl]
  have hn := nd_srt h
  rw [hl] at hn
  obtain ⟨h1, _⟩ := List.nodup_cons.1 hn
  have e : out (M.getD i (0, 0, 0)).2.1 (two (M.getD i (0, 0, 0)) :: l) = out (M.getD i (0, 0, 0)).2.1 l := by simp [out, two]
  rw [e]
  exact out_none _ l fun y hy => beq_eq_false_iff_ne.2 fun e => h1 (List.mem_map.2 ⟨y, hy, e⟩)
/-- Is it there: by the length. -/
theorem fil_length (s : Int) (M : List Tw) : decide ((fil s M).length < M.length) = has (srt M) s := by
  have h1 : (fil s M).length = (out s (srt M)).length := by rw [← srt_fil, srt_length]
  rw [h1, ← srt_length M]
  generalize srt M = l
  unfold has
  rw [Bool.eq_iff_iff, decide_eq_true_iff, List.any_eq_true]
  unfold out
  rw [List.length_filter_lt_length_iff_exists]
  exact ⟨fun ⟨x, hx, h⟩ => ⟨x, hx, by simpa using h⟩, fun ⟨x, hx, h⟩ => ⟨x, hx, by simpa using h⟩⟩
end Go.Proofs.Ytmheabnpkbhadaa.Rp
