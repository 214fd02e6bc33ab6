/- A row that was cleared is as_ a new one, whatever was in it. No condition. -/
import Derived.Test.YtdfholbeimbalabClear
namespace Go.Proofs.Ytdfholbeimbalab.RingAgainW
open Go.RowKit Go.Proofs.Ytdfholbeimbalab.Bk Go.Proofs.Ytdfholbeimbalab.Rw Go.Proofs.Ytdfholbeimbalab.Ow Go.Proofs.Ytdfholbeimbalab.Kp Go.Proofs.Ytdfholbeimbalab.Ring Go.Proofs.Ytdfholbeimbalab.RAlive Go.Proofs.Ytdfholbeimbalab.In

theorem elem1 {w : World} {A : Option Addr} {len : Nat} {vs : List (List Value)} (h : Lf.RowsAt w [.i .i64, .i .i64] A len vs) {k : Nat} (hk : k < len) :
    ∃ (ad : Addr) (x0 : Int) (x1 : Int), A = some ad ∧ vs[k]? = some [.int .i64 x0, .int .i64 x1] ∧ w.cell? (ad.add (k * 2)) = some (.int .i64 x0) ∧ w.cell? ⟨(ad.add (k * 2)).block, (ad.add (k * 2)).off + 1, none⟩ = some (.int .i64 x1) ∧ (Lit.int .i64 x0).wf = true ∧ (Lit.int .i64 x1).wf = true := by
  obtain ⟨ad, c, rfl, hv, hL, hc0, hcj⟩ := h.elem hk
  obtain ⟨u0, g0, q0, ⟨x0, e0, f0⟩, L0⟩ := hL.cons
  obtain ⟨u1, g1, q1, ⟨x1, e1, f1⟩, L1⟩ := L0.cons
  have n_ := L1.nil
  have hcc : c = [.int .i64 x0, .int .i64 x1] := by rw [q0, e0, q1, e1, n_]
  rw [hcc] at hv hc0 hcj
  exact ⟨ad, x0, x1, rfl, hv, hc0 _ rfl, hcj 0 _ rfl, f0, f1⟩

/-- Two rings, apart, all behind B. -/
structure Two (W w : World) (r p g p2 g2 : Nat) (q q2 : List Value) : Prop where
  a : Rg 53 3 w p g r q
  b : Rg 53 3 w p2 g2 r q2
  below : Below W.heap.size W w
  pa : ∀ k, k = p ∨ k = g → W.heap.size ≤ k ∧ k ≠ p2 ∧ k ≠ g2
  pb : ∀ k, k = p2 ∨ k = g2 → W.heap.size ≤ k ∧ k ≠ p ∧ k ≠ g
section
variable {W w w' : World} {r p g p2 g2 : Nat} {q q' q2 : List Value}
theorem Two.onA (h : Two W w r p g p2 g2 q q2) (hr : Rg 53 3 w' p g r q') (hk : Kp (fun k => k = p ∨ k = g) w w') : Two W w' r p g p2 g2 q' q2 :=
  ⟨hr, h.b.kp hk (fun e => by have := h.pa _ e; omega) (fun e => by have := h.pa _ e; omega), below_kp h.below h.below.size hk (fun k hk => (h.pa k hk).1), h.pa, h.pb⟩
theorem Two.onB (h : Two W w r p g p2 g2 q q2) (hr : Rg 53 3 w' p2 g2 r q') (hk : Kp (fun k => k = p2 ∨ k = g2) w w') : Two W w' r p g p2 g2 q q' :=
  ⟨h.a.kp hk (fun e => by have := h.pb _ e; omega) (fun e => by have := h.pb _ e; omega), hr, below_kp h.below h.below.size hk (fun k hk => (h.pb k hk).1), h.pa, h.pb⟩
theorem Two.drewN (h : Two W w r p g p2 g2 q q2) (n : Nat) : Two W (w.drewN n) r p g p2 g2 q q2 := ⟨h.a, h.b, below_drewN_ h.below n, h.pa, h.pb⟩
theorem Two.later (h : Two W w r p g p2 g2 q q2) (hb : Below w.heap.size w w') : Two W w' r p g p2 g2 q q2 := ⟨h.a.below hb, h.b.below hb, h.below.trans (hb.mono h.below.size), h.pa, h.pb⟩
end
/-- All are numbers. -/
def Ints (q : List Value) : Prop := ∃ l : List Int, q = vs l
theorem Ints.nil : Ints [] := ⟨[], rfl⟩
theorem Ints.snoc {q : List Value} (h : Ints q) (x : Int) : Ints (q ++ [.int .i64 x]) := by obtain ⟨l, rfl⟩ := h; exact ⟨l ++ [x], by simp [vs]⟩

set_option maxRecDepth 100000 in
set_option maxHeartbeats 2000000 in
set_option linter.unusedVariables false in
theorem walk (a0 : Int) (a1 : Option Addr) (len1 cap1 : Nat) (z1 : List (List Value)) (a2 : Option Addr) (len2 cap2 : Nat) (z2 : List Int) (W : World) (w0 : (Lit.int .i64 a0).wf = true) (l1 : len1 ≤ cap1) (m1 : cap1 ≤ maxLen) (w1 : Lf.RowsAt W [.i .i64, .i .i64] a1 len1 z1) (w2 : Lf.IsRow .i64 W a2 len2 cap2 z2) (y2 : len2 * 8 ≤ 140737488351232) :
    Calls Try.prog 5 #[.int .i64 a0, .slice a1 len1 cap1, .slice a2 len2 cap2] W fun e w' => e = .returned (.bool true) ∧ Below W.heap.size W w' := by
  obtain ⟨l, rfl, hc2, _, hr2, _⟩ := row_ints w2
  have R2 := Lib.hid hr2
  have R1 := Lib.hid w1
  clear w1 hr2 w2 y2 z2
  unfold maxLen at m1
  go_enter Try.func5, Try.ntmps5
  go_wp2_with fail
  refine (alive_ok _).mono ?_
  rintro e w1 ⟨rfl, hb⟩
  have HW := Lib.hid hb
  clear hb
  by_cases hg : 1 ≤ a0 ∧ a0 ≤ 64 ∧ len1 ≤ 200 ∧ l.length ≤ 100
  rotate_left
  · have HG := Lib.hid hg
    clear hg
    go_wp2_with fail
    all_goals first
      | (go_ret; exact ⟨rfl, HW.out⟩)
      | (refine absurd ?_ HG.out; omega)
  obtain ⟨g0, g1, g2, g3⟩ := hg
  obtain ⟨r, rfl⟩ := Int.eq_ofNat_of_zero_le (show 0 ≤ a0 by omega)
  go_wp2_with fail
  refine (RI.new_ok r _ (by omega) (by omega)).mono ?_
  rintro e w3 ⟨p, g, rfl, hr, hp, hgg, hb⟩
  have HR3 := Lib.hid hr
  have HW3 := Lib.hid (HW.out.trans (hb.mono HW.out.size))
  have HP3 := Lib.hid (show W.heap.size ≤ p ∧ W.heap.size ≤ g by have := HW.out.size; omega)
  clear hr hp hgg hb HW
  go_wp2_with fail
  refine (RI.new_ok r _ (by omega) (by omega)).mono ?_
  rintro e w4 ⟨p2, g2, rfl, hr, hp, hgg, hb⟩
  have HT := Lib.hid (show Two W w4 r p g p2 g2 [] [] from ⟨HR3.out.below hb, hr, HW3.out.trans (hb.mono HW3.out.size), fun k hk => by have := HR3.out.lt; have := HP3.out; omega, fun k hk => by have := HR3.out.lt; have := HP3.out; have := HW3.out.size; omega⟩)
  clear hr hp hgg hb HW3 HR3 HP3
  go_wp2
  go_loopw [50] (fun i wr => ∃ j : Nat, ∃ q : List Value, j ≤ len1 ∧ i = .int .i64 j ∧ Two W wr r p g p2 g2 q []) (fun i _ => len1 - (intOf i).toNat)
  case atStart => exact ⟨0, [], Nat.zero_le _, rfl, HT.out⟩
  case round =>
    clear HT
    obtain ⟨j, q, hj, rfl, ht⟩ := hrel
    have HT := Lib.hid ht
    clear ht
    by_cases hlt : j < len1
    · obtain ⟨ad1, k, x, rfl, _, cx0, cx1, _, _⟩ := elem1 (R1.out.below HT.out.below) hlt
      have hqr := HT.out.a.len_le
      have HA := Lib.hid (fun o => HT.out.later ((Below.refl _ _).alloc (Nat.le_refl _) o))
      by_cases hk2 : k < 2
      · by_cases hfull : q.length = r
        · go_wp2_with fail
          refine (RI.push_full p g r q x _ (HA.out _).a hfull).mono ?_
          rintro e w6 ⟨rfl, m, rfl⟩
          have HT6 := Lib.hid ((HA.out (.cells #[.int .i64 k, .int .i64 x] 43)).drewN m)
          go_wp2
          go_roundw
          case rel => exact ⟨j + 1, q, by omega, by go_num, HT6.out⟩
          case measure => simp [intOf]; omega
        · go_wp2_with fail
          refine (RI.push_ok p g r q x _ (HA.out _).a (by omega) (by omega)).mono ?_
          rintro e w6 ⟨rfl, hr, hk⟩
          have HT6 := Lib.hid ((HA.out _).onA hr hk)
          clear hr hk
          go_wp2
          go_roundw
          case rel => exact ⟨j + 1, _, by omega, by go_num, HT6.out⟩
          case measure => simp [intOf]; omega
      · rcases q with _ | ⟨y, q⟩
        · go_wp2_with fail
          refine (RI.pop_none p g r _ (HA.out _).a).mono ?_
          rintro e w6 ⟨rfl, rfl⟩
          have HT6 := Lib.hid (HA.out (.cells #[.int .i64 k, .int .i64 x] 43))
          go_wp2
          go_roundw
          case rel => exact ⟨j + 1, [], by omega, by go_num, HT6.out⟩
          case measure => simp [intOf]; omega
        · go_wp2_with fail
          refine (RI.pop_ok p g r y q _ (HA.out _).a (by omega)).mono ?_
          rintro e w6 ⟨rfl, hr, hk⟩
          have HT6 := Lib.hid ((HA.out _).onA hr hk)
          clear hr hk
          go_wp2
          go_roundw
          case rel => exact ⟨j + 1, q, by omega, by go_num, HT6.out⟩
          case measure => simp [intOf]; omega
    · obtain rfl : len1 = j := by omega
      go_wp2_with fail
      refine (clear_ok p g r q _ HT.out.a (by omega)).mono ?_
      rintro e w5 ⟨rfl, hr, hk⟩
      have HT5 := Lib.hid (HT.out.onA hr hk)
      clear hr hk HT
      go_wp2
      go_loopw [68] (fun i wr => ∃ j : Nat, j ≤ l.length ∧ i = .int .i64 j ∧ Two W wr r p g p2 g2 (vs (l.take (min j r))) (vs (l.take (min j r)))) (fun i _ => l.length - (intOf i).toNat)
      case atStart => exact ⟨0, Nat.zero_le _, rfl, by rw [Nat.zero_min]; exact HT5.out⟩
      case round =>
        clear HT5
        obtain ⟨j, hj, rfl, ht⟩ := hrel
        have HT := Lib.hid ht
        clear ht
        by_cases hlt : j < l.length
        · obtain ⟨ad2, rfl, _, cx⟩ := (R2.out.below HT.out.below).at_ hlt
          have hx : l[j]? = some (l.getD j 0) := by rw [List.getD_eq_getElem?_getD, List.getElem?_eq_getElem hlt]; rfl
          have hlen : (vs (l.take (min j r))).length = min j r := by unfold vs; rw [List.length_map, List.length_take]; omega
          have HL := Lib.hid hlen
          clear hlen
          by_cases hjr : j < r
          · have hnext : vs (l.take (min j r)) ++ [.int .i64 (l.getD j 0)] = vs (l.take (min (j + 1) r)) := by
              rw [show min (j + 1) r = j + 1 by omega, show min j r = j by omega, List.take_add_one, hx]
              simp [vs]
            have HN := Lib.hid hnext
            clear hnext hx
            generalize l.getD j 0 = x at cx HN
            go_wp2_with fail
            refine (RI.push_ok p g r _ x _ HT.out.a (by rw [HL.out]; omega) (by omega)).mono ?_
            rintro e w6 ⟨rfl, hr, hk⟩
            have HT6 := Lib.hid (HT.out.onA hr hk)
            clear hr hk
            go_wp2_with fail
            refine (RI.push_ok p2 g2 r _ x _ HT6.out.b (by rw [HL.out]; omega) (by omega)).mono ?_
            rintro e w7 ⟨rfl, hr, hk⟩
            have HT7 := Lib.hid (HT6.out.onB hr hk)
            clear hr hk HT HT6
            rw [HN.out] at HT7
            go_wp2_with (first
              | (go_at_call 11; with_reducible refine Calls.mono (RI.len_ok p g r _ _ HT7.out.a) ?_; rintro e w8 ⟨rfl, rfl⟩)
              | (go_at_call 11; with_reducible refine Calls.mono (RI.len_ok p2 g2 r _ _ HT7.out.b) ?_; rintro e w8 ⟨rfl, rfl⟩))
            go_roundw
            case rel => exact ⟨j + 1, by omega, by go_num, HT7.out⟩
            case measure => simp [intOf]; omega
          · have hnext : vs (l.take (min j r)) = vs (l.take (min (j + 1) r)) := by
              rw [show min (j + 1) r = min j r by omega]
            have HN := Lib.hid hnext
            clear hnext hx
            generalize l.getD j 0 = x at cx HN
            go_wp2_with fail
            refine (RI.push_full p g r _ x _ HT.out.a (by rw [HL.out]; omega)).mono ?_
            rintro e w6 ⟨rfl, m, rfl⟩
            go_wp2_with fail
            refine (RI.push_full p2 g2 r _ x _ (HT.out.drewN m).b (by rw [HL.out]; omega)).mono ?_
            rintro e w7 ⟨rfl, m2, rfl⟩
            have HT7 := Lib.hid ((HT.out.drewN m).drewN m2)
            rw [HN.out] at HT7
            clear HT
            generalize (wr.drewN m).drewN m2 = w7 at HT7 ⊢
            go_wp2_with (first
              | (go_at_call 11; with_reducible refine Calls.mono (RI.len_ok p g r _ _ HT7.out.a) ?_; rintro e w8 ⟨rfl, rfl⟩)
              | (go_at_call 11; with_reducible refine Calls.mono (RI.len_ok p2 g2 r _ _ HT7.out.b) ?_; rintro e w8 ⟨rfl, rfl⟩))
            go_roundw
            case rel => exact ⟨j + 1, by omega, by go_num, HT7.out⟩
            case measure => simp [intOf]; omega
        · obtain rfl : j = l.length := by omega
          have HLR := Lib.hid HT.out.a.len_le
          generalize l.take (min l.length r) = u at HT HLR
          go_wp2
          go_loopw [15] (fun i wr => ∃ k : Nat, k ≤ r + 1 ∧ i = .int .i64 k ∧ Two W wr r p g p2 g2 (vs (u.drop k)) (vs (u.drop k))) (fun i _ => r + 1 - (intOf i).toNat)
          case atStart => exact ⟨0, Nat.zero_le _, rfl, HT.out⟩
          case round =>
            clear HT
            obtain ⟨k, hk, rfl, ht⟩ := hrel
            have HT := Lib.hid ht
            clear ht
            by_cases hlt2 : k ≤ r
            · by_cases hu : k < u.length
              · have hd : vs (u.drop k) = .int .i64 u[k] :: vs (u.drop (k + 1)) := by
                  unfold vs
                  rw [List.drop_eq_getElem_cons hu, List.map_cons]
                rw [hd] at HT
                clear hd
                generalize u[k] = x at HT
                go_wp2_with fail
                refine (RI.pop_ok p g r _ _ _ HT.out.a (by omega)).mono ?_
                rintro e w6 ⟨rfl, hr, hk2⟩
                have HT6 := Lib.hid (HT.out.onA hr hk2)
                clear hr hk2
                go_wp2_with fail
                refine (RI.pop_ok p2 g2 r _ _ _ HT6.out.b (by omega)).mono ?_
                rintro e w7 ⟨rfl, hr, hk2⟩
                have HT7 := Lib.hid (HT6.out.onB hr hk2)
                clear hr hk2 HT HT6
                go_wp2
                go_roundw
                case rel => exact ⟨k + 1, by omega, by go_num, HT7.out⟩
                case measure => simp [intOf]; omega
              · have hd : ∀ n, k ≤ n → vs (u.drop n) = [] := fun n hn => by unfold vs; rw [List.drop_eq_nil_of_le (by omega)]; rfl
                have HD := Lib.hid hd
                rw [hd k (Nat.le_refl _)] at HT
                clear hd
                go_wp2_with fail
                refine (RI.pop_none p g r _ HT.out.a).mono ?_
                rintro e w6 ⟨rfl, rfl⟩
                go_wp2_with fail
                refine (RI.pop_none p2 g2 r _ HT.out.b).mono ?_
                rintro e w6 ⟨rfl, rfl⟩
                go_wp2
                go_roundw
                case rel => exact ⟨k + 1, by omega, by go_num, by rw [HD.out (k + 1) (by omega)]; exact HT.out⟩
                case measure => simp [intOf]; omega
            · have hd : vs (u.drop k) = [] := by unfold vs; rw [List.drop_eq_nil_of_le (by have := HLR.out; simp [vs] at this; omega)]; rfl
              rw [hd] at HT
              clear hd
              go_wp2_with (go_at_call 11; with_reducible refine Calls.mono (RI.len_ok p g r _ _ HT.out.a) ?_; rintro e w8 ⟨rfl, rfl⟩)
              go_ret
              exact ⟨rfl, HT.out.below⟩
end Go.Proofs.Ytdfholbeimbalab.RingAgainW
