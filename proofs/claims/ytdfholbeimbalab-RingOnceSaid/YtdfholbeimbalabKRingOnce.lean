/- What was pushed is popped, once, in order, and there are never more than there is room for. No condition. -/
import Derived.Test.YtdfholbeimbalabRAlive
namespace Go.Proofs.Ytdfholbeimbalab.RingOnceW
open Go.RowKit Go.Proofs.Ytdfholbeimbalab.Bk Go.Proofs.Ytdfholbeimbalab.Rw Go.Proofs.Ytdfholbeimbalab.Ow Go.Proofs.Ytdfholbeimbalab.Kp Go.Proofs.Ytdfholbeimbalab.Ring Go.Proofs.Ytdfholbeimbalab.RAlive Go.Proofs.Ytdfholbeimbalab.In

/-- Between two rounds: what went in, of which n were popped. -/
structure St (W wr : World) (p g r : Nat) (v : Value) (ii : List Int) (n : Nat) : Prop where
  own : Oi .i64 3 wr W.heap.size v ii
  ring : Rg 53 3 wr p g r (vs (ii.drop n))
  below : Below W.heap.size W wr
  far : ∀ b, v.ownBlock = some b → b ≠ p ∧ b ≠ g
  le : n ≤ ii.length
  base : W.heap.size ≤ p ∧ W.heap.size ≤ g

section
variable {W w w' : World} {p g r n : Nat} {v : Value} {ii : List Int}
theorem St.drewN (h : St W w p g r v ii n) (m : Nat) : St W (w.drewN m) p g r v ii n := ⟨h.own.drewN m, h.ring.drewN m, below_drewN_ h.below m, h.far, h.le, h.base⟩
/-- A push, and what went in with it. -/
theorem St.push (h : St W w p g r v ii n) (x : Int) (hr : Rg 53 3 w' p g r (vs (ii.drop n) ++ [.int .i64 x])) (hk : Kp (fun k => k = p ∨ k = g) w w') (o : Obj) {v2 : Value} {w2 : World}
    (ho : Oi .i64 3 w2 W.heap.size v2 (ii ++ [x])) (hg : (w'.alloc o).grownBy w2 v.ownBlock) (hv : v2.ownBlock = v.ownBlock ∨ v2.ownBlock = some (w'.heap.size + 1)) : St W w2 p g r v2 (ii ++ [x]) n := by
  have hlt := hr.lt
  have hown := h.own.owner
  have hb := h.base
  have hfar := h.far
  have hb1 : Below W.heap.size W w' := below_kp h.below h.below.size hk (fun k hk => by rcases hk with rfl | rfl <;> omega)
  have hk2 : Kp (fun k => some k = v.ownBlock) w' w2 := ((Kp.refl _ w').alloc o).grown hg (fun q hq => .inl hq.symm)
  have hd : vs (ii.drop n) ++ [.int .i64 x] = vs ((ii ++ [x]).drop n) := by rw [List.drop_append_of_le_length h.le]; simp [vs]
  rw [hd] at hr
  refine ⟨ho, hr.kp hk2 (fun e => (hfar p e.symm).1 rfl) (fun e => (hfar g e.symm).2 rfl), below_kp hb1 hb1.size hk2 (fun k hk => (hown k hk.symm).1), fun b hb => ?_, by rw [List.length_append]; have := h.le; omega, h.base⟩
  rcases hv with e | e
  · exact hfar b (e.symm.trans hb)
  · rw [e] at hb
    injection hb with hb
    omega
theorem St.pop (h : St W w p g r v ii n) (hn : n < ii.length) (hr : Rg 53 3 w' p g r (vs (ii.drop (n + 1)))) (hk : Kp (fun k => k = p ∨ k = g) w w') : St W w' p g r v ii (n + 1) :=
  ⟨oi_kp h.own hk (fun q hq => by have := h.far q hq; omega), hr, below_kp h.below h.below.size hk (fun k hk => by have := h.base; rcases hk with rfl | rfl <;> omega), h.far, hn, h.base⟩
end

set_option maxRecDepth 100000 in
set_option maxHeartbeats 2000000 in
set_option linter.unusedVariables false in
theorem walk (a0 : Int) (a1 : Option Addr) (len1 cap1 : Nat) (z1 : List Int) (a2 : Option Addr) (len2 cap2 : Nat) (z2 : List Int) (W : World) (w0 : (Lit.int .i64 a0).wf = true) (w1 : Lf.IsRow .i64 W a1 len1 cap1 z1) (y1 : len1 * 8 ≤ 140737488351232) (w2 : Lf.IsRow .i64 W a2 len2 cap2 z2) (y2 : len2 * 8 ≤ 140737488351232) :
    Calls Try.prog 3 #[.int .i64 a0, .slice a1 len1 cap1, .slice a2 len2 cap2] W fun e w' => e = .returned (.bool true) ∧ Below W.heap.size W w' := by
  obtain ⟨l, rfl, hc1, _, hr1, _⟩ := row_ints w1
  obtain ⟨m, rfl, hc2, _, hr2, _⟩ := row_ints w2
  have R1 := Lib.hid hr1
  have R2 := Lib.hid hr2
  clear hr1 hr2 w1 w2 y1 y2 z1 z2
  go_enter Try.func3, Try.ntmps3
  go_wp2_with fail
  refine (alive_ok _).mono ?_
  rintro e w1 ⟨rfl, hb⟩
  have HW := Lib.hid hb
  clear hb
  by_cases hg : 1 ≤ a0 ∧ a0 ≤ 64 ∧ l.length ≤ 300 ∧ l.length ≤ m.length
  rotate_left
  · have HG := Lib.hid hg
    clear hg
    go_wp2_with fail
    all_goals first
      | (go_ret; exact ⟨rfl, HW.out⟩)
      | (refine absurd ?_ HG.out; omega)
  obtain ⟨g0, g1, g2, g3⟩ := hg
  obtain ⟨r, rfl⟩ := Int.eq_ofNat_of_zero_le (show 0 ≤ a0 by omega)
  go_wp2_with fail
  refine (RI.new_ok r _ (by omega) (by omega)).mono ?_
  rintro e w3 ⟨p, g, rfl, hr, hp, hgg, hb⟩
  have HS := Lib.hid (show St W w3 p g r (.slice none 0 0) [] 0 from ⟨Oi.nil _ _ _ _, hr, HW.out.trans (hb.mono HW.out.size), fun b h => by simp [Value.ownBlock] at h, Nat.le_refl _, by have := HW.out.size; omega⟩)
  clear hr hp hgg hb HW
  go_wp2
  go_loopw [9, 10, 43] (fun a v i wr => ∃ (j n : Nat) (ii : List Int), j ≤ l.length ∧ ii.length ≤ j ∧ a = .int .i64 n ∧ i = .int .i64 j ∧ St W wr p g r v ii n) (fun _ _ i _ => l.length - (intOf i).toNat)
  case atStart => exact ⟨0, 0, [], Nat.zero_le _, Nat.le_refl _, rfl, rfl, HS.out⟩
  case round =>
    clear HS
    obtain ⟨j, n, ii, hj, hij, rfl, rfl, hs⟩ := hrel
    have HS := Lib.hid hs
    have hn := hs.le
    clear hs
    by_cases hlt : j < l.length
    rotate_left
    · have hjl : j = l.length := by omega
      subst hjl
      go_wp2
      go_ret
      exact ⟨rfl, HS.out.below⟩
    obtain ⟨ad1, rfl, _, cl⟩ := (R1.out.below HS.out.below).at_ hlt
    generalize l.getD j 0 = x at cl
    obtain ⟨A, cA, rfl, hcA, _⟩ := HS.out.own.ri
    have hqn : (vs (ii.drop n)).length = ii.length - n := by simp [vs]
    have hqr := HS.out.ring.len_le
    rw [hqn] at hqr
    have HQN := Lib.hid hqn
    clear hqn
    by_cases hfull : ii.length - n = r
    · go_wp2_with fail
      refine (RI.push_full p g r _ x _ HS.out.ring (HQN.out.trans hfull)).mono ?_
      rintro e w4 ⟨rfl, k4, rfl⟩
      have HS2 := Lib.hid (HS.out.drewN k4)
      have hij2 : ii.length ≤ j + 1 := by omega
      have hn2 := hn
      clear HS hij hqr HQN hn hfull cl
      generalize wr.drewN k4 = wr2 at HS2 ⊢
      go_wp2
      go_loopw [9, 13] (fun a i wr3 => ∃ n2 c : Nat, c ≤ 3 ∧ n2 ≤ ii.length ∧ a = .int .i64 n2 ∧ i = .int .i64 c ∧ St W wr3 p g r (.slice A ii.length cA) ii n2) (fun _ i _ => 3 - (intOf i).toNat)
      case atStart => exact ⟨n, 0, by omega, hn2, rfl, rfl, HS2.out⟩
      case round =>
        clear HS2 hn2
        obtain ⟨n2, c, hc, hn2, rfl, rfl, hs⟩ := hrel
        have HS3 := Lib.hid hs
        clear hs
        obtain ⟨ad2, hA2, _, cm⟩ := (R2.out.below HS3.out.below).at_ (show j < m.length by omega)
        subst hA2
        generalize m.getD j 0 = y at cm
        have hq2 : (vs (ii.drop n2)).length = ii.length - n2 := by simp [vs]
        have hlen := HS3.out.ring.len_le
        rw [hq2] at hlen
        have HL := Lib.hid (show ∀ w', Rg 53 3 w' p g r (vs (ii.drop n2)) → Calls Try.prog 11 #[.pointer (some ⟨p, 0, none⟩)] w' fun e w'' => e = .returned (.int .i64 (((ii.length - n2 : Nat) : Int))) ∧ w' = w'' from fun w' h => by rw [← hq2]; exact RI.len_ok p g r _ w' h)
        clear hq2
        by_cases hgo : (c : Int) < y ∧ c < 3
        · obtain ⟨hy, hc3⟩ := hgo
          by_cases hne : n2 < ii.length
          · obtain ⟨g2, hA, cx⟩ : ∃ g2, A = some ⟨g2, 0, none⟩ ∧ wr.cell? ⟨g2, n2, none⟩ = some (.int .i64 (ii.getD n2 0)) := by
              obtain ⟨h1, h2⟩ | ⟨g2, c2, he, _, _, _, _, hcell, _⟩ := HS3.out.own.form
              · rw [h2] at hne
                exact absurd hne (by simp)
              · injection he with he
                exact ⟨g2, he, hcell n2 _ (by rw [List.getD_eq_getElem?_getD, List.getElem?_eq_getElem hne]; rfl)⟩
            subst hA
            have hd : vs (ii.drop n2) = .int .i64 (ii.getD n2 0) :: vs (ii.drop (n2 + 1)) := by
              unfold vs
              rw [List.drop_eq_getElem_cons hne, List.map_cons, List.getD_eq_getElem?_getD, List.getElem?_eq_getElem hne]
              rfl
            have HR3 := Lib.hid (hd ▸ HS3.out.ring)
            clear hd
            go_wp2_with fail
            refine (RI.pop_ok p g r _ _ _ HR3.out (by omega)).mono ?_
            rintro e w5 ⟨rfl, hr, hk⟩
            have HS5 := Lib.hid (HS3.out.pop hne hr hk)
            clear hr hk HR3 HS3
            have hcx : w5.cell? ⟨g2, n2, none⟩ = some (.int .i64 (ii.getD n2 0)) := by
              obtain ⟨h1, h2⟩ | ⟨g2', c2, he, _, _, _, _, hcell, _⟩ := HS5.out.own.form
              · cases h1
              · injection he with he
                injection he with he
                injection he with he
                subst he
                exact hcell n2 _ (by rw [List.getD_eq_getElem?_getD, List.getElem?_eq_getElem hne]; rfl)
            clear cx
            generalize ii.getD n2 0 = z at hcx ⊢
            go_wp2
            go_roundw
            case rel => exact ⟨n2 + 1, c + 1, by omega, by omega, by go_num, by go_num, HS5.out⟩
            case measure => simp [intOf]; omega
          · have hd : vs (ii.drop n2) = [] := by
              unfold vs
              rw [List.drop_eq_nil_of_le (by omega)]
              rfl
            have HR3 := Lib.hid (hd ▸ HS3.out.ring)
            clear hd
            go_wp2_with fail
            refine (RI.pop_none p g r _ HR3.out).mono ?_
            rintro e w5 ⟨rfl, rfl⟩
            go_wp2
            go_roundw
            case rel => exact ⟨n2, c + 1, by omega, hn2, by go_num, by go_num, HS3.out⟩
            case measure => simp [intOf]; omega
        · go_wp2_with (go_at_call 11; with_reducible refine Calls.mono (HL.out _ HS3.out.ring) ?_; rintro e w' ⟨rfl, rfl⟩)
          all_goals
            refine ⟨⟨j + 1, n2, ii, by omega, by omega, by go_num, by go_num, HS3.out⟩, by simp [intOf]; omega⟩
    · go_wp2_with fail
      refine (RI.push_ok p g r _ x _ HS.out.ring (by rw [HQN.out]; omega) (by omega)).mono ?_
      rintro e w4 ⟨rfl, hr, hk⟩
      have HR4 := Lib.hid hr
      have HK4 := Lib.hid hk
      have HO4 := Lib.hid (oi_kp HS.out.own hk (fun q hq => by have := HS.out.far q hq; omega))
      have hbs : W.heap.size ≤ w4.heap.size := Nat.le_trans HS.out.below.size hk.size
      clear hr hk
      go_wp2_with (at_builtin; refine wp_append .i64 3 _ W.heap.size (.int .i64 0) 8 rfl _ _ 22 rfl Try.underlying22 (by kernel_rfl) rfl _ _ _ _ [x] _ rfl rfl rfl (HO4.out.alloc _) (Ri.lit .i64 3 _ [x] (by simp [maxLen]) _ rfl) ?_ ?_ ?_ ?_)
      · unfold maxLen; simp; omega
      · simp; omega
      · simp; omega
      intro v2 wr2 ho hg2 hv2
      have HS2 := Lib.hid (HS.out.push x HR4.out HK4.out _ ho hg2 hv2)
      have hij2 : (ii ++ [x]).length ≤ j + 1 := by simp; omega
      have hn2 : n ≤ (ii ++ [x]).length := by simp; omega
      clear HS HR4 HK4 HO4 ho hg2 hv2 hij hqr HQN hn hfull cl hbs
      generalize ii ++ [x] = ii2 at HS2 hij2 hn2
      obtain ⟨A2, cA2, rfl, hcA2, _⟩ := HS2.out.own.ri
      go_wp2
      go_loopw [9, 13] (fun a i wr3 => ∃ n2 c : Nat, c ≤ 3 ∧ n2 ≤ ii2.length ∧ a = .int .i64 n2 ∧ i = .int .i64 c ∧ St W wr3 p g r (.slice A2 ii2.length cA2) ii2 n2) (fun _ i _ => 3 - (intOf i).toNat)
      case atStart => exact ⟨n, 0, by omega, hn2, rfl, rfl, HS2.out⟩
      case round =>
        clear HS2 hn2
        obtain ⟨n2, c, hc, hn2, rfl, rfl, hs⟩ := hrel
        have HS3 := Lib.hid hs
        clear hs
        obtain ⟨ad2, hA2, _, cm⟩ := (R2.out.below HS3.out.below).at_ (show j < m.length by omega)
        subst hA2
        generalize m.getD j 0 = y at cm
        have hq2 : (vs (ii2.drop n2)).length = ii2.length - n2 := by simp [vs]
        have hlen := HS3.out.ring.len_le
        rw [hq2] at hlen
        have HL := Lib.hid (show ∀ w', Rg 53 3 w' p g r (vs (ii2.drop n2)) → Calls Try.prog 11 #[.pointer (some ⟨p, 0, none⟩)] w' fun e w'' => e = .returned (.int .i64 (((ii2.length - n2 : Nat) : Int))) ∧ w' = w'' from fun w' h => by rw [← hq2]; exact RI.len_ok p g r _ w' h)
        clear hq2
        by_cases hgo : (c : Int) < y ∧ c < 3
        · obtain ⟨hy, hc3⟩ := hgo
          by_cases hne : n2 < ii2.length
          · obtain ⟨g2, hA, cx⟩ : ∃ g2, A2 = some ⟨g2, 0, none⟩ ∧ wr.cell? ⟨g2, n2, none⟩ = some (.int .i64 (ii2.getD n2 0)) := by
              obtain ⟨h1, h2⟩ | ⟨g2, c2, he, _, _, _, _, hcell, _⟩ := HS3.out.own.form
              · rw [h2] at hne
                exact absurd hne (by simp)
              · injection he with he
                exact ⟨g2, he, hcell n2 _ (by rw [List.getD_eq_getElem?_getD, List.getElem?_eq_getElem hne]; rfl)⟩
            subst hA
            have hd : vs (ii2.drop n2) = .int .i64 (ii2.getD n2 0) :: vs (ii2.drop (n2 + 1)) := by
              unfold vs
              rw [List.drop_eq_getElem_cons hne, List.map_cons, List.getD_eq_getElem?_getD, List.getElem?_eq_getElem hne]
              rfl
            have HR3 := Lib.hid (hd ▸ HS3.out.ring)
            clear hd
            go_wp2_with fail
            refine (RI.pop_ok p g r _ _ _ HR3.out (by omega)).mono ?_
            rintro e w5 ⟨rfl, hr, hk⟩
            have HS5 := Lib.hid (HS3.out.pop hne hr hk)
            clear hr hk HR3 HS3
            have hcx : w5.cell? ⟨g2, n2, none⟩ = some (.int .i64 (ii2.getD n2 0)) := by
              obtain ⟨h1, h2⟩ | ⟨g2', c2, he, _, _, _, _, hcell, _⟩ := HS5.out.own.form
              · cases h1
              · injection he with he
                injection he with he
                injection he with he
                subst he
                exact hcell n2 _ (by rw [List.getD_eq_getElem?_getD, List.getElem?_eq_getElem hne]; rfl)
            clear cx
            generalize ii2.getD n2 0 = z at hcx ⊢
            go_wp2
            go_roundw
            case rel => exact ⟨n2 + 1, c + 1, by omega, by omega, by go_num, by go_num, HS5.out⟩
            case measure => simp [intOf]; omega
          · have hd : vs (ii2.drop n2) = [] := by
              unfold vs
              rw [List.drop_eq_nil_of_le (by omega)]
              rfl
            have HR3 := Lib.hid (hd ▸ HS3.out.ring)
            clear hd
            go_wp2_with fail
            refine (RI.pop_none p g r _ HR3.out).mono ?_
            rintro e w5 ⟨rfl, rfl⟩
            go_wp2
            go_roundw
            case rel => exact ⟨n2, c + 1, by omega, hn2, by go_num, by go_num, HS3.out⟩
            case measure => simp [intOf]; omega
        · go_wp2_with (go_at_call 11; with_reducible refine Calls.mono (HL.out _ HS3.out.ring) ?_; rintro e w' ⟨rfl, rfl⟩)
          all_goals
            refine ⟨⟨j + 1, n2, ii2, by omega, by omega, by go_num, by go_num, HS3.out⟩, by simp [intOf]; omega⟩
end Go.Proofs.Ytdfholbeimbalab.RingOnceW
