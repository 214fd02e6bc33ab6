/- Due: all that is due at a time, in order; the rest stays. -/
import Derived.Test.YtmheabnpkbhadaaSe
import Derived.Deep.LoopGhost
namespace Go.Proofs.Ytmheabnpkbhadaa.Du
open Go.RowKit Go.Proofs.Ytmheabnpkbhadaa.Bk Go.Proofs.Ytmheabnpkbhadaa.Kp Go.Proofs.Ytmheabnpkbhadaa.Rw Go.Proofs.Ytmheabnpkbhadaa.Ow Go.Proofs.Ytmheabnpkbhadaa.Tp Go.Proofs.Ytmheabnpkbhadaa.Tl Go.Proofs.Ytmheabnpkbhadaa.Tq Go.Proofs.Ytmheabnpkbhadaa.Is Go.Proofs.Ytmheabnpkbhadaa.Se
theorem dues_cons (x : One) (l : List One) (now : Int) : dues (x :: l) now = if x.1 ≤ now then x.2 :: dues l now else [] := by
  unfold dues
  by_cases h : x.1 ≤ now <;> simp [h]
theorem left_cons (x : One) (l : List One) (now : Int) : left (x :: l) now = if x.1 ≤ now then left l now else x :: l := by
  unfold left
  by_cases h : x.1 ≤ now <;> simp [h]
theorem dues_length (l : List One) (now : Int) : (dues l now).length ≤ l.length := by
  unfold dues
  rw [List.length_map]
  exact (List.takeWhile_sublist _).length_le
/-- A row that isn't empty, opened. -/
theorem rb_cons {w : World} {r q : Nat} {x : One} {l : List One} (h : RB w r q (x :: l)) : ∃ o c, Blk w r 26 #[.slice (some ⟨q, o, none⟩) (l.length + 1) c] ∧ q ≠ r ∧ l.length + 1 ≤ c ∧ c ≤ maxLen ∧
    w.cell? ⟨q, o, none⟩ = some (.int .i64 x.1) ∧ w.cell? ⟨q, o + 1, none⟩ = some (.int .i64 x.2) ∧ Rs w (.slice (if c = 1 then some ⟨q, o, none⟩ else some ⟨q, o + 2, none⟩) l.length (c - 1)) q l := by
  obtain ⟨v, hb, h⟩ := h
  rcases h with ⟨_, h, _⟩ | ⟨⟨o, c, C, rfl, hC, h1, h2, h3, h4⟩, hne⟩
  · cases h
  · rw [cel_cons] at h4
    simp only [List.length_cons] at h1 hb
    refine ⟨o, c, hb, hne, h1, h2, ?_, ?_, ?_⟩
    · rw [hC.cell]; exact h4 0 _ rfl
    · rw [hC.cell]; exact h4 1 _ rfl
    · by_cases hc : c = 1
      · have h0 : l = [] := List.eq_nil_of_length_eq_zero (by omega)
        subst h0
        rw [if_pos hc]
        exact ⟨o, c - 1, C, rfl, hC, by simp, by omega, by omega, fun j v hv => by simp [cel] at hv⟩
      · rw [if_neg hc]
        refine ⟨o + 2, c - 1, C, rfl, hC, by omega, by omega, by omega, fun j v hv => ?_⟩
        rw [show o + 2 + j = o + (j + 1 + 1) by omega]
        exact h4 (j + 1 + 1) v hv
theorem rb_nil {w : World} {r q : Nat} (h : RB w r q []) : ∃ A c, Blk w r 26 #[.slice A 0 c] := by
  obtain ⟨v, hb, hn⟩ := h.rn
  obtain ⟨A, c, rfl, _⟩ := hn.form
  exact ⟨A, c, hb⟩
theorem due_nil (now : Int) (w : World) : Calls Try.prog 9 #[.pointer none, .int .i64 now] w fun e w' => e = .returned (.slice none 0 0) ∧ w = w' := by
  go_enter Try.func9, Try.ntmps9
  go_wp2
  go_loopw [5] (fun s5 wr => s5 = .slice none 0 0 ∧ w = wr) (fun _ _ => 0)
  case atStart => exact ⟨rfl, rfl⟩
  case round =>
    obtain ⟨rfl, rfl⟩ := hrel
    go_wp2
    go_ret
    exact ⟨rfl, rfl⟩
set_option maxRecDepth 100000 in
set_option maxHeartbeats 2000000 in
theorem due_ok (r q : Nat) (l : List One) (now : Int) (w : World) (hR : RB w r q l) (hl : l.length ≤ 16) :
    Calls Try.prog 9 #[.pointer (some ⟨r, 0, none⟩), .int .i64 now] w fun e w' => (∃ v, e = .returned v ∧ Oi .i64 3 w' w.heap.size v (dues l now)) ∧ RB w' r q (left l now) ∧ Kp (· = r) w w' := by
  have hr := hR.ltr
  have hqlt := hR.ltq
  have HR := Lib.hid hR
  clear hR
  go_enter Try.func9, Try.ntmps9
  go_wp2
  go_loopg [5] l.length (fun gg s5 wr => ∃ ds ls, Aside (ls.length ≤ gg ∧ ds.length + ls.length = l.length ∧ ds ++ dues ls now = dues l now ∧ left ls now = left l now ∧ RB wr r q ls ∧ Kp (· = r) w wr ∧ Oi .i64 3 wr w.heap.size s5 ds))
  case atStart => exact ⟨[], l, Nat.le_refl _, by simp, by simp, rfl, HR.out, Kp.refl _ _, Oi.nil _ _ _ _⟩
  case round =>
    obtain ⟨ds, ls, hA⟩ := hrel
    have HA := Lib.hid hA.out
    clear hA HR
    cases ls with
    | nil =>
      obtain ⟨A, c, hb⟩ := rb_nil HA.out.2.2.2.2.1
      have c0 : wr.cell? ⟨r, 0, none⟩ = some (.slice A 0 c) := hb.cell 0
      clear hb
      go_wp2
      go_ret
      refine ⟨⟨_, rfl, ?_⟩, ?_, HA.out.2.2.2.2.2.1⟩
      · have h1 := HA.out.2.2.1
        rw [show dues [] now = [] from rfl, List.append_nil] at h1
        rw [← h1]
        exact HA.out.2.2.2.2.2.2
      · rw [← HA.out.2.2.2.1]
        exact HA.out.2.2.2.2.1
    | cons x ls =>
      obtain ⟨o, c, hb, hne, hlc, hcm, x0, x1, hRs⟩ := rb_cons HA.out.2.2.2.2.1
      have c0 : wr.cell? ⟨r, 0, none⟩ = some (.slice (some ⟨q, o, none⟩) (ls.length + 1) c) := hb.cell 0
      obtain ⟨N, hN⟩ : ∃ N, ls.length = N := ⟨_, rfl⟩
      have hlen := HA.out.2.1
      rw [hN] at c0 hlc hRs
      have HRs := Lib.hid hRs
      have HBK := Lib.hid hb
      clear hRs hb
      have n0 : (0 : Int) < (N : Int) + 1 := by omega
      by_cases hx : x.1 ≤ now
      · have dx : decide (x.1 ≤ now) = true := decide_eq_true hx
        have HO := Lib.hid (HA.out.2.2.2.2.2.2.alloc (.cells #[.int .i64 x.2] 3))
        have HX := Lib.hid (Ri.lit .i64 3 wr [x.2] (by simp [maxLen]) #[.int .i64 x.2] rfl (mk := (0, 0)))
        have HK := HA.out.2.2.2.2.2.1
        have hws := HK.size
        have HK1 := Lib.hid (HK.alloc (.cells #[.int .i64 x.2] 3))
        simp only [List.length_cons] at hlen
        clear HK
        go_wp2_with (at_builtin; refine wp_append .i64 3 _ w.heap.size (.int .i64 0) 8 rfl _ _ 22 rfl Try.underlying22 (by kernel_rfl) rfl _ ds _ _ [x.2] 1 rfl rfl rfl HO.out HX.out ?_ ?_ ?_ ?_)
        · unfold maxLen; simp; omega
        · simp; omega
        · simp; omega
        intro v' w' ho hg hown
        have hq0 : ∀ p, Value.ownBlock _ = some p → w.heap.size ≤ p := fun p hp => (HO.out.owner p hp).1
        have hb2 : Blk w' r 26 #[.slice (some ⟨q, o, none⟩) (N + 1) c] := by
          have := (HBK.out.alloc (.cells #[.int .i64 x.2] 3)).grown hg (fun e => by have := hq0 r e.symm; omega)
          rwa [hN] at this
        have c2 : w'.cell? ⟨r, 0, none⟩ = some (.slice (some ⟨q, o, none⟩) (N + 1) c) := hb2.cell 0
        have f2 := hb2.frozen 0
        have HB2 := Lib.hid hb2
        have HO2 := Lib.hid ho
        have HK2 := Lib.hid (HK1.out.grown hg (fun p hp => .inr (hq0 p hp)))
        have HR2 : Hid (Rs w' (.slice (if c = 1 then some ⟨q, o, none⟩ else some ⟨q, o + 2, none⟩) N (c - 1)) q ls) := by
          have h := HRs.out.keeps ((Below.refl _ wr).alloc (Nat.le_refl _) (.cells #[.int .i64 x.2] 3))
          obtain ⟨o', c', C, e1, e2, e3⟩ := h
          exact ⟨o', c', C, e1, e2.grown hg (fun e => by have := hq0 q e.symm; omega), e3⟩
        clear hb2 ho hg hown hq0 HBK HRs HK1 HO HX x0 x1 c0
        have n1 : (1 : Int) ≤ (N : Int) + 1 := by omega
        have HXX := Lib.hid hx
        clear hx dx
        by_cases hc : c = 1
        · rw [if_pos hc] at HR2
          subst hc
          obtain rfl : N = 0 := by omega
          go_wp2
          go_roundg 0
          case measure => have h := HA.out.1; simp only [List.length_cons] at h; omega
          case rel =>
            refine ⟨ds ++ [x.2], ls, (show Aside _ from ⟨by omega, by simp only [List.length_append, List.length_cons, List.length_nil]; omega, ?_, ?_, ?_, ?_, ?_⟩)⟩
            · have h1 := HA.out.2.2.1
              rw [dues_cons, if_pos HXX.out] at h1
              rw [← h1, List.append_assoc]
              rfl
            · have h1 := HA.out.2.2.2.1
              rw [left_cons, if_pos HXX.out] at h1
              exact h1
            · exact ⟨_, HB2.out.set_ 0 _, .inr ⟨HR2.out.kp (S := (· = r)) (Kp.set_ (S := (· = r)) (Kp.refl _ _) ⟨r, 0, none⟩ (.inl rfl) _) hne, hne⟩⟩
            · exact HK2.out.set_ ⟨r, 0, none⟩ (.inl rfl) _
            · exact oi_kp HO2.out (S := (· = r)) (Kp.set_ (S := (· = r)) (Kp.refl _ _) ⟨r, 0, none⟩ (.inl rfl) _) (fun p hp e => by have := (HO2.out.owner p hp).1; omega)
        · rw [if_neg hc] at HR2
          go_wp2
          go_roundg N
          case measure => have h := HA.out.1; simp only [List.length_cons] at h; omega
          case rel =>
            refine ⟨ds ++ [x.2], ls, (show Aside _ from ⟨by omega, by simp only [List.length_append, List.length_cons, List.length_nil]; omega, ?_, ?_, ?_, ?_, ?_⟩)⟩
            · have h1 := HA.out.2.2.1
              rw [dues_cons, if_pos HXX.out] at h1
              rw [← h1, List.append_assoc]
              rfl
            · have h1 := HA.out.2.2.2.1
              rw [left_cons, if_pos HXX.out] at h1
              exact h1
            · exact ⟨_, HB2.out.set_ 0 _, .inr ⟨HR2.out.kp (S := (· = r)) (Kp.set_ (S := (· = r)) (Kp.refl _ _) ⟨r, 0, none⟩ (.inl rfl) _) hne, hne⟩⟩
            · exact HK2.out.set_ ⟨r, 0, none⟩ (.inl rfl) _
            · exact oi_kp HO2.out (S := (· = r)) (Kp.set_ (S := (· = r)) (Kp.refl _ _) ⟨r, 0, none⟩ (.inl rfl) _) (fun p hp e => by have := (HO2.out.owner p hp).1; omega)
      · have dx : decide (x.1 ≤ now) = false := decide_eq_false hx
        have HXX := Lib.hid hx
        go_wp2
        go_ret
        refine ⟨⟨_, rfl, ?_⟩, ?_, HA.out.2.2.2.2.2.1⟩
        · have h1 := HA.out.2.2.1
          rw [dues_cons, if_neg (Int.not_le.2 HXX.out), List.append_nil] at h1
          rw [← h1]
          exact HA.out.2.2.2.2.2.2
        · have h1 := HA.out.2.2.2.1
          rw [left_cons, if_neg (Int.not_le.2 HXX.out)] at h1
          rw [← h1]
          exact HA.out.2.2.2.2.1
end Go.Proofs.Ytmheabnpkbhadaa.Du
