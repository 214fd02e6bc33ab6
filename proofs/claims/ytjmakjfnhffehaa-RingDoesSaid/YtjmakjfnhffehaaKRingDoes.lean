/- In every script each answer, and all that there are, are the document's; what can't be is refused; a nil row. No condition. -/
import Derived.Test.YtjmakjfnhffehaaRwNil
import Derived.Test.YtjmakjfnhffehaaSq
import Derived.Test.YtjmakjfnhffehaaLf
import Derived.Deep.CutBlock
import Derived.Deep.DeepCutAuto
import Derived.BigRegion
namespace Go.Proofs.Ytjmakjfnhffehaa.RingDoesW
open Go.RowKit Go.Proofs.Ytjmakjfnhffehaa.Bk Go.Proofs.Ytjmakjfnhffehaa.Rw Go.Proofs.Ytjmakjfnhffehaa.Ow Go.Proofs.Ytjmakjfnhffehaa.Kp Go.Proofs.Ytjmakjfnhffehaa.Sq Go.Proofs.Ytjmakjfnhffehaa.Ck Go.Proofs.Ytjmakjfnhffehaa.Ck2 Go.Proofs.Ytjmakjfnhffehaa.Ring Go.Proofs.Ytjmakjfnhffehaa.RAlive Go.Proofs.Ytjmakjfnhffehaa.It

theorem elem1 {w : World} {A : Option Addr} {len : Nat} {vs : List (List Value)} (h : Lf.RowsAt w [.i .i64, .i .i64] A len vs) {k : Nat} (hk : k < len) :
    ∃ (ad : Addr) (x0 : Int) (x1 : Int), A = some ad ∧ vs[k]? = some [.int .i64 x0, .int .i64 x1] ∧ w.cell? (ad.add (k * 2)) = some (.int .i64 x0) ∧ w.cell? ⟨(ad.add (k * 2)).block, (ad.add (k * 2)).off + 1, none⟩ = some (.int .i64 x1) ∧ (Lit.int .i64 x0).wf = true ∧ (Lit.int .i64 x1).wf = true := by
  obtain ⟨ad, c, rfl, hv, hL, hc0, hcj⟩ := h.elem hk
  obtain ⟨u0, g0, q0, ⟨x0, e0, f0⟩, L0⟩ := hL.cons
  obtain ⟨u1, g1, q1, ⟨x1, e1, f1⟩, L1⟩ := L0.cons
  have n_ := L1.nil
  have hcc : c = [.int .i64 x0, .int .i64 x1] := by rw [q0, e0, q1, e1, n_]
  rw [hcc] at hv hc0 hcj
  exact ⟨ad, x0, x1, rfl, hv, hc0 _ rfl, hcj 0 _ rfl, f0, f1⟩
theorem rn_nil (w : World) (T : Nat → Prop) : Rn w T none [] := .inl ⟨rfl, rfl⟩
theorem vs_len (xs : List Int) : (vs xs).length = xs.length := by simp [vs]
theorem vs_snoc (xs : List Int) (v : Int) : vs xs ++ [.int .i64 v] = vs (xs ++ [v]) := by simp [vs]

set_option maxRecDepth 100000 in
set_option maxHeartbeats 1000000 in
theorem early (a0 a2 : Int) (a1 : Option Addr) (len1 cap1 : Nat) (W : World) (h : a0 < 1 ∨ 64 < a0) (hl : ¬ (200 : Int) < len1) :
    Calls Try.prog 3 #[.int .i64 a0, .slice a1 len1 cap1, .int .i64 a2] W fun e w' => e = .returned (.bool true) ∧ Below W.heap.size W w' := by
  have N0 := Lib.hid (fun w => RI.new_no a0 w h)
  have SN := Lib.hid (fun w => show Calls Try.prog 10 #[.pointer none, .slice none 0 0] w fun e w' => e = .returned (.bool true) ∧ Below w.heap.size w w' from same_ok none none 0 [] w (rn_nil _ _) (by decide) (fun j hj => absurd hj (by simp)))
  rcases h with h | h
  · go_enter Try.func3, Try.ntmps3
    go_wp2_with (first
      | (go_at_call 4; (with_reducible refine Calls.mono (alive_ok _) ?_); rintro e w1 ⟨rfl, hb⟩; have HB1 := Lib.hid hb; clear hb)
      | (go_at_call 5; (with_reducible refine Calls.mono (N0.out _) ?_); rintro e w2 ⟨rfl, rfl⟩)
      | (go_at_call 6; (with_reducible refine Calls.mono (clear_nil _) ?_); rintro e w2 ⟨rfl, rfl⟩)
      | (go_at_call 7; (with_reducible refine Calls.mono (pop_nil _) ?_); rintro e w2 ⟨rfl, rfl⟩)
      | (go_at_call 8; (with_reducible refine Calls.mono (push_nil _ _) ?_); rintro e w2 ⟨rfl, rfl⟩)
      | (go_at_call 9; (with_reducible refine Calls.mono (len_nil _) ?_); rintro e w2 ⟨rfl, rfl⟩)
      | (go_at_call 10; (with_reducible refine Calls.mono (SN.out _) ?_); rintro e w2 ⟨rfl, hb⟩; have HB2 := Lib.hid (HB1.out.trans (hb.mono HB1.out.size)); clear hb))
    go_ret
    exact ⟨rfl, HB2.out⟩
  · have h0 : ¬ a0 < 1 := by omega
    go_enter Try.func3, Try.ntmps3
    go_wp2_with (first
      | (go_at_call 4; (with_reducible refine Calls.mono (alive_ok _) ?_); rintro e w1 ⟨rfl, hb⟩; have HB1 := Lib.hid hb; clear hb)
      | (go_at_call 5; (with_reducible refine Calls.mono (N0.out _) ?_); rintro e w2 ⟨rfl, rfl⟩)
      | (go_at_call 6; (with_reducible refine Calls.mono (clear_nil _) ?_); rintro e w2 ⟨rfl, rfl⟩)
      | (go_at_call 7; (with_reducible refine Calls.mono (pop_nil _) ?_); rintro e w2 ⟨rfl, rfl⟩)
      | (go_at_call 8; (with_reducible refine Calls.mono (push_nil _ _) ?_); rintro e w2 ⟨rfl, rfl⟩)
      | (go_at_call 9; (with_reducible refine Calls.mono (len_nil _) ?_); rintro e w2 ⟨rfl, rfl⟩)
      | (go_at_call 10; (with_reducible refine Calls.mono (SN.out _) ?_); rintro e w2 ⟨rfl, hb⟩; have HB2 := Lib.hid (HB1.out.trans (hb.mono HB1.out.size)); clear hb))
    go_ret
    exact ⟨rfl, HB2.out⟩

set_option maxRecDepth 100000 in
set_option maxHeartbeats 4000000 in
set_option linter.unusedVariables false in
theorem walk (a0 : Int) (a1 : Option Addr) (len1 cap1 : Nat) (z1 : List (List Value)) (a2 : Int) (W : World) (w0 : (Lit.int .i64 a0).wf = true) (l1 : len1 ≤ cap1) (m1 : cap1 ≤ maxLen) (w1 : Lf.RowsAt W [.i .i64, .i .i64] a1 len1 z1) (w2 : (Lit.int .i64 a2).wf = true) :
    Calls Try.prog 3 #[.int .i64 a0, .slice a1 len1 cap1, .int .i64 a2] W fun e w' => e = .returned (.bool true) ∧ Below W.heap.size W w' := by
  have hl8 : len1 ≤ 9223372036854775807 := by unfold maxLen at m1; omega
  have R := Lib.hid w1
  clear w0 w1 w2 m1
  by_cases c3 : (200 : Int) < len1
  · go_enter Try.func3, Try.ntmps3
    go_wp2_with (go_at_call 4; refine (alive_ok _).mono ?_; rintro e w1 ⟨rfl, hb⟩; have HB := Lib.hid hb; clear hb)
    go_ret
    exact ⟨rfl, HB.out⟩
  by_cases hr : a0 < 1 ∨ 64 < a0
  · exact early a0 a2 a1 len1 cap1 W hr c3
  obtain ⟨room, rfl⟩ : ∃ room : Nat, a0 = room := ⟨a0.toNat, by omega⟩
  have r1 : 1 ≤ room := by omega
  have r64 : room ≤ 64 := by omega
  have q1 : ¬ ((room : Int) < 1) := by omega
  have q2 : ¬ (64 < (room : Int)) := by omega
  have q3 : ¬ (room < 1) := by omega
  have q4 : ¬ (64 < room) := by omega
  clear hr
  have N0 := Lib.hid (fun w => RI.new_ok room w r1 r64)
  have SN := Lib.hid (fun w => show Calls Try.prog 10 #[.pointer none, .slice none 0 0] w fun e w' => e = .returned (.bool true) ∧ Below w.heap.size w w' from same_ok none none 0 [] w (rn_nil _ _) (by decide) (fun j hj => absurd hj (by simp)))
  go_enter Try.func3, Try.ntmps3
  go_wp2_with fail
  refine (alive_ok _).mono ?_
  rintro e w1 ⟨rfl, hb⟩
  have HB1 := Lib.hid hb
  clear hb
  go_wp2_with fail
  refine (N0.out _).mono ?_
  rintro e w2 ⟨p, g, rfl, hrg, hp, hg, hb⟩
  have HR2 := Lib.hid hrg
  have HB2 := Lib.hid (HB1.out.trans (hb.mono HB1.out.size))
  have hpW : W.heap.size ≤ p := Nat.le_trans HB1.out.size hp
  have hgW : W.heap.size ≤ g := Nat.le_trans HB1.out.size hg
  clear hrg hb hp hg HB1 N0
  go_upto_region 13 with (first
    | (go_at_call 6; (with_reducible refine Calls.mono (clear_nil _) ?_); rintro e w3 ⟨rfl, rfl⟩)
    | (go_at_call 7; (with_reducible refine Calls.mono (pop_nil _) ?_); rintro e w3 ⟨rfl, rfl⟩)
    | (go_at_call 8; (with_reducible refine Calls.mono (push_nil _ _) ?_); rintro e w3 ⟨rfl, rfl⟩)
    | (go_at_call 9; (with_reducible refine Calls.mono (len_nil _) ?_); rintro e w3 ⟨rfl, rfl⟩)
    | (go_at_call 10; (with_reducible refine Calls.mono (SN.out _) ?_); rintro e w3 ⟨rfl, hb⟩; have HR3 := Lib.hid (HR2.out.below hb); have HB3 := Lib.hid (HB2.out.trans (hb.mono HB2.out.size)); clear hb))
  clear HR2 HB2 SN
  have HR4 := Lib.hid (HR3.out.below ((Below.refl _ _).alloc (Nat.le_refl _) (.cells #[.int .i64 room, .slice none 0 0] 36)))
  have HM4 := Lib.hid (show Rf (w3.alloc (.cells #[.int .i64 room, .slice none 0 0] 36)) (w3.heap.size + 1) w3.heap.size room [] from ⟨none, 0, Blk.new _ _ _, Nat.le_refl _, Nat.zero_le _, Ri.nil, fun _ h => nomatch h⟩)
  have HB4 := Lib.hid (HB3.out.alloc HB3.out.size (.cells #[.int .i64 room, .slice none 0 0] 36))
  have hlt3 := HR3.out.lt
  have hm0 := HB3.out.size
  go_wp2_with fail
  have hB1 : w3.heap.size + 1 ≤ (w3.alloc (.cells #[.int .i64 room, .slice none 0 0] 36)).heap.size := by simp
  generalize w3.alloc (.cells #[.int .i64 room, .slice none 0 0] 36) = w4 at HR4 HM4 HB4 hB1 ⊢
  obtain ⟨m, hm⟩ : ∃ m, w3.heap.size = m := ⟨_, rfl⟩
  rw [hm] at HM4 hlt3 hm0 hB1 ⊢
  obtain ⟨B1, hB1e⟩ : ∃ B1, m + 1 = B1 := ⟨_, rfl⟩
  rw [hB1e] at HM4 hB1
  have hmB : m < B1 := by omega
  have hpm : p < m := by omega
  have hgm : g < m := by omega
  clear hm hB1e hlt3 HR3 HB3
  go_loopw [69] (fun i wr => ∃ (k : Nat) (xs : List Int), k ≤ len1 ∧ i = .int .i64 k ∧ B1 ≤ wr.heap.size ∧ Rg 43 3 wr p g room (vs xs) ∧ Rf wr B1 m room xs ∧ Below W.heap.size W wr) (fun i _ => len1 - (intOf i).toNat)
  case atStart => exact ⟨0, [], Nat.zero_le _, rfl, hB1, HR4.out, HM4.out, HB4.out⟩
  case round =>
    clear HR4 HM4 HB4 hB1
    obtain ⟨k, xs, hk, rfl, hB1, hrg, hrf, hb⟩ := hrel
    have HR := Lib.hid hrg
    have HM := Lib.hid hrf
    have HB := Lib.hid hb
    have hxl := hrg.len_le
    rw [vs_len] at hxl
    clear hrg hrf hb
    by_cases hlt : k < len1
    · obtain ⟨ad, x0, x1, rfl, _, e0, e1, wx0, wx1⟩ := elem1 (R.out.below HB.out) hlt
      clear wx0 wx1
      have HR2 := Lib.hid (HR.out.below ((Below.refl _ _).alloc (Nat.le_refl _) (.cells #[.int .i64 x0, .int .i64 x1] 38)))
      have HM2 := Lib.hid (HM.out.alloc (.cells #[.int .i64 x0, .int .i64 x1] 38))
      have HX2 := Lib.hid (Blk.new wr 38 #[.int .i64 x0, .int .i64 x1])
      have HB2 := Lib.hid (HB.out.alloc HB.out.size (.cells #[.int .i64 x0, .int .i64 x1] 38))
      have hbx := hB1
      have hBs : B1 ≤ (wr.alloc (.cells #[.int .i64 x0, .int .i64 x1] 38)).heap.size := by simp; omega
      clear HR HM HB hB1
      go_upto_block 2 with fail
      clear e0 e1
      generalize wr.alloc (.cells #[.int .i64 x0, .int .i64 x1] 38) = w2 at HR2 HM2 HX2 HB2 hBs ⊢
      generalize wr.heap.size = bx at HX2 hbx ⊢
      have b1 := HX2.out.cell 1
      go_cut [] (fun wx => ∃ (xs : List Int), B1 ≤ wx.heap.size ∧ Rg 43 3 wx p g room (vs xs) ∧ Rf wx B1 m room xs ∧ Below W.heap.size W wx)
      case first =>
        by_cases k0 : x0 = 0
        · as_aux_lemma =>
          subst k0
          by_cases hfull : xs.length = room
          · have C1 := Lib.hid (RI.push_full p g room (vs xs) x1 w2.drew (HR2.out.drewN 1) (by rw [vs_len]; exact hfull))
            go_wp2_with fail
            refine wp_region_seq [(0, true), (1, true), (2, true), (4, true), (5, true), (6, true), (3, false), (7, false), (8, true)] (fun w' => w'.cell? ⟨bx, 1, none⟩ = some (.int .i64 x1)) (by kernel_rfl) (by kernel_rfl) (HX2.out.drew.cell 1) (fun hHeld1 => ?_)
            simp only [List.map_cons, List.map_nil, List.getElem?_toArray, List.getElem?_cons_zero, List.getElem?_cons_succ]
            repeat (first | (refine seq_skip (by rfl) ?_; try simp only [Act.put, List.setIfInBounds_toArray, List.set_cons_zero, List.set_cons_succ]) | (refine seq_not (by rfl) (by assumption) ?_; try simp only [Act.put, List.setIfInBounds_toArray, List.set_cons_zero, List.set_cons_succ]) | (refine seq_take (v := ?_) (by rfl) ?_ ?_; rotate_left; (focus ((intro w hSw; (try dsimp only at hSw); go_simp; (try with_reducible rfl)); done)); try simp only [Act.put, List.setIfInBounds_toArray, List.set_cons_zero, List.set_cons_succ]))
            refine seq_do (fun K hK => ?_)
            go_simp
            go_at_call 8
            (with_reducible refine Calls.mono C1.out ?_)
            rintro e w5 ⟨rfl, n, rfl⟩
            dsimp only
            refine hK.out _ _ ((HX2.out.drewN (1 + n)).cell 1) (fun hHeld2 => ?_)
            clear hK K
            repeat (first | (refine seq_skip (by rfl) ?_; try simp only [Act.put, List.setIfInBounds_toArray, List.set_cons_zero, List.set_cons_succ]) | (refine seq_not (by rfl) (by assumption) ?_; try simp only [Act.put, List.setIfInBounds_toArray, List.set_cons_zero, List.set_cons_succ]) | (refine seq_take (v := ?_) (by rfl) ?_ ?_; rotate_left; (focus ((intro w hSw; (try dsimp only at hSw); go_simp; (try with_reducible rfl)); done)); try simp only [Act.put, List.setIfInBounds_toArray, List.set_cons_zero, List.set_cons_succ]))
            refine seq_do (fun K hK => ?_)
            go_simp
            go_at_call 11
            (with_reducible refine Calls.mono (rpush_full B1 m room xs x1 _ (HM2.out.drewN (1 + n)) (by omega)) ?_)
            rintro e w5 ⟨rfl, rfl⟩
            dsimp only
            refine hK.out _ _ ((HX2.out.drewN (1 + n)).drew.cell 1) (fun hHeld3 => ?_)
            clear hK K
            repeat (first | (refine seq_skip (by rfl) ?_; try simp only [Act.put, List.setIfInBounds_toArray, List.set_cons_zero, List.set_cons_succ]) | (refine seq_not (by rfl) (by assumption) ?_; try simp only [Act.put, List.setIfInBounds_toArray, List.set_cons_zero, List.set_cons_succ]) | (refine seq_take (v := ?_) (by rfl) ?_ ?_; rotate_left; (focus ((intro w hSw; (try dsimp only at hSw); go_simp; (try with_reducible rfl)); done)); try simp only [Act.put, List.setIfInBounds_toArray, List.set_cons_zero, List.set_cons_succ]))
            refine seq_done ?_
            clear hHeld1 hHeld2 hHeld3
            go_wp2
            go_meet
            first
              | exact ⟨xs, hBs, (HR2.out.drewN (1 + n)).drewN 1, (HM2.out.drewN (1 + n)).drew, below_drew (below_drewN_ HB2.out (1 + n))⟩
              | exact ⟨xs, hBs, HR2.out.drewN _, HM2.out.drewN _, below_drewN_ HB2.out _⟩
          · have C1 := Lib.hid (RI.push_ok p g room (vs xs) x1 w2.drew (HR2.out.drewN 1) (by rw [vs_len]; omega) r64)
            go_wp2_with fail
            refine wp_region_seq [(0, true), (1, true), (2, true), (4, true), (5, true), (6, true), (3, false), (7, false), (8, true)] (fun w' => w'.cell? ⟨bx, 1, none⟩ = some (.int .i64 x1)) (by kernel_rfl) (by kernel_rfl) (HX2.out.drew.cell 1) (fun hHeld1 => ?_)
            simp only [List.map_cons, List.map_nil, List.getElem?_toArray, List.getElem?_cons_zero, List.getElem?_cons_succ]
            repeat (first | (refine seq_skip (by rfl) ?_; try simp only [Act.put, List.setIfInBounds_toArray, List.set_cons_zero, List.set_cons_succ]) | (refine seq_not (by rfl) (by assumption) ?_; try simp only [Act.put, List.setIfInBounds_toArray, List.set_cons_zero, List.set_cons_succ]) | (refine seq_take (v := ?_) (by rfl) ?_ ?_; rotate_left; (focus ((intro w hSw; (try dsimp only at hSw); go_simp; (try with_reducible rfl)); done)); try simp only [Act.put, List.setIfInBounds_toArray, List.set_cons_zero, List.set_cons_succ]))
            refine seq_do (fun K hK => ?_)
            go_simp
            go_at_call 8
            (with_reducible refine Calls.mono C1.out ?_)
            rintro e w5 ⟨rfl, hrg, hkp⟩
            have HR5 := Lib.hid (vs_snoc xs x1 ▸ hrg)
            have HM5 := Lib.hid (HM2.out.drew.kp hkp (by omega) (by omega))
            have HX5 := Lib.hid (blk_kp HX2.out.drew hkp (by omega))
            have HB5 := Lib.hid (below_kp (below_drew HB2.out) HB2.out.size hkp (fun k hk => by omega))
            have hB5 : B1 ≤ w5.heap.size := Nat.le_trans hBs hkp.size
            dsimp only
            refine hK.out _ _ (HX5.out.cell 1) (fun hHeld2 => ?_)
            clear hK K hrg hkp
            repeat (first | (refine seq_skip (by rfl) ?_; try simp only [Act.put, List.setIfInBounds_toArray, List.set_cons_zero, List.set_cons_succ]) | (refine seq_not (by rfl) (by assumption) ?_; try simp only [Act.put, List.setIfInBounds_toArray, List.set_cons_zero, List.set_cons_succ]) | (refine seq_take (v := ?_) (by rfl) ?_ ?_; rotate_left; (focus ((intro w hSw; (try dsimp only at hSw); go_simp; (try with_reducible rfl)); done)); try simp only [Act.put, List.setIfInBounds_toArray, List.set_cons_zero, List.set_cons_succ]))
            refine seq_do (fun K hK => ?_)
            go_simp
            go_at_call 11
            (with_reducible refine Calls.mono (rpush_ok B1 m room xs x1 _ HM5.out (by omega) r64 hB5 hmB) ?_)
            rintro e w6 ⟨rfl, hrf, hkp⟩
            have HM6 := Lib.hid hrf
            have HR6 := Lib.hid (HR5.out.kp hkp (by omega) (by omega))
            have HX6 := Lib.hid (blk_kp HX5.out hkp (by omega))
            have HB6 := Lib.hid (below_kp HB5.out HB5.out.size hkp (fun k hk => by omega))
            have hB6 : B1 ≤ w6.heap.size := Nat.le_trans hB5 hkp.size
            dsimp only
            refine hK.out _ _ (HX6.out.cell 1) (fun hHeld3 => ?_)
            clear hK K hrf hkp
            repeat (first | (refine seq_skip (by rfl) ?_; try simp only [Act.put, List.setIfInBounds_toArray, List.set_cons_zero, List.set_cons_succ]) | (refine seq_not (by rfl) (by assumption) ?_; try simp only [Act.put, List.setIfInBounds_toArray, List.set_cons_zero, List.set_cons_succ]) | (refine seq_take (v := ?_) (by rfl) ?_ ?_; rotate_left; (focus ((intro w hSw; (try dsimp only at hSw); go_simp; (try with_reducible rfl)); done)); try simp only [Act.put, List.setIfInBounds_toArray, List.set_cons_zero, List.set_cons_succ]))
            refine seq_done ?_
            clear hHeld1 hHeld2 hHeld3
            go_wp2
            go_meet
            exact ⟨xs ++ [x1], hB6, HR6.out, HM6.out, HB6.out⟩
        by_cases k1 : x0 = 1
        · as_aux_lemma =>
          subst k1
          by_cases hfull : xs.length = room
          · have C1 := Lib.hid (RI.push_full p g room (vs xs) x1 w2.drew (HR2.out.drewN 1) (by rw [vs_len]; exact hfull))
            go_wp2_with fail
            refine wp_region_seq [(0, true), (1, true), (2, true), (4, true), (5, true), (6, true), (3, false), (7, false), (8, true)] (fun w' => w'.cell? ⟨bx, 1, none⟩ = some (.int .i64 x1)) (by kernel_rfl) (by kernel_rfl) (HX2.out.drew.cell 1) (fun hHeld1 => ?_)
            simp only [List.map_cons, List.map_nil, List.getElem?_toArray, List.getElem?_cons_zero, List.getElem?_cons_succ]
            repeat (first | (refine seq_skip (by rfl) ?_; try simp only [Act.put, List.setIfInBounds_toArray, List.set_cons_zero, List.set_cons_succ]) | (refine seq_not (by rfl) (by assumption) ?_; try simp only [Act.put, List.setIfInBounds_toArray, List.set_cons_zero, List.set_cons_succ]) | (refine seq_take (v := ?_) (by rfl) ?_ ?_; rotate_left; (focus ((intro w hSw; (try dsimp only at hSw); go_simp; (try with_reducible rfl)); done)); try simp only [Act.put, List.setIfInBounds_toArray, List.set_cons_zero, List.set_cons_succ]))
            refine seq_do (fun K hK => ?_)
            go_simp
            go_at_call 8
            (with_reducible refine Calls.mono C1.out ?_)
            rintro e w5 ⟨rfl, n, rfl⟩
            dsimp only
            refine hK.out _ _ ((HX2.out.drewN (1 + n)).cell 1) (fun hHeld2 => ?_)
            clear hK K
            repeat (first | (refine seq_skip (by rfl) ?_; try simp only [Act.put, List.setIfInBounds_toArray, List.set_cons_zero, List.set_cons_succ]) | (refine seq_not (by rfl) (by assumption) ?_; try simp only [Act.put, List.setIfInBounds_toArray, List.set_cons_zero, List.set_cons_succ]) | (refine seq_take (v := ?_) (by rfl) ?_ ?_; rotate_left; (focus ((intro w hSw; (try dsimp only at hSw); go_simp; (try with_reducible rfl)); done)); try simp only [Act.put, List.setIfInBounds_toArray, List.set_cons_zero, List.set_cons_succ]))
            refine seq_do (fun K hK => ?_)
            go_simp
            go_at_call 11
            (with_reducible refine Calls.mono (rpush_full B1 m room xs x1 _ (HM2.out.drewN (1 + n)) (by omega)) ?_)
            rintro e w5 ⟨rfl, rfl⟩
            dsimp only
            refine hK.out _ _ ((HX2.out.drewN (1 + n)).drew.cell 1) (fun hHeld3 => ?_)
            clear hK K
            repeat (first | (refine seq_skip (by rfl) ?_; try simp only [Act.put, List.setIfInBounds_toArray, List.set_cons_zero, List.set_cons_succ]) | (refine seq_not (by rfl) (by assumption) ?_; try simp only [Act.put, List.setIfInBounds_toArray, List.set_cons_zero, List.set_cons_succ]) | (refine seq_take (v := ?_) (by rfl) ?_ ?_; rotate_left; (focus ((intro w hSw; (try dsimp only at hSw); go_simp; (try with_reducible rfl)); done)); try simp only [Act.put, List.setIfInBounds_toArray, List.set_cons_zero, List.set_cons_succ]))
            refine seq_done ?_
            clear hHeld1 hHeld2 hHeld3
            go_wp2
            go_meet
            first
              | exact ⟨xs, hBs, (HR2.out.drewN (1 + n)).drewN 1, (HM2.out.drewN (1 + n)).drew, below_drew (below_drewN_ HB2.out (1 + n))⟩
              | exact ⟨xs, hBs, HR2.out.drewN _, HM2.out.drewN _, below_drewN_ HB2.out _⟩
          · have C1 := Lib.hid (RI.push_ok p g room (vs xs) x1 w2.drew (HR2.out.drewN 1) (by rw [vs_len]; omega) r64)
            go_wp2_with fail
            refine wp_region_seq [(0, true), (1, true), (2, true), (4, true), (5, true), (6, true), (3, false), (7, false), (8, true)] (fun w' => w'.cell? ⟨bx, 1, none⟩ = some (.int .i64 x1)) (by kernel_rfl) (by kernel_rfl) (HX2.out.drew.cell 1) (fun hHeld1 => ?_)
            simp only [List.map_cons, List.map_nil, List.getElem?_toArray, List.getElem?_cons_zero, List.getElem?_cons_succ]
            repeat (first | (refine seq_skip (by rfl) ?_; try simp only [Act.put, List.setIfInBounds_toArray, List.set_cons_zero, List.set_cons_succ]) | (refine seq_not (by rfl) (by assumption) ?_; try simp only [Act.put, List.setIfInBounds_toArray, List.set_cons_zero, List.set_cons_succ]) | (refine seq_take (v := ?_) (by rfl) ?_ ?_; rotate_left; (focus ((intro w hSw; (try dsimp only at hSw); go_simp; (try with_reducible rfl)); done)); try simp only [Act.put, List.setIfInBounds_toArray, List.set_cons_zero, List.set_cons_succ]))
            refine seq_do (fun K hK => ?_)
            go_simp
            go_at_call 8
            (with_reducible refine Calls.mono C1.out ?_)
            rintro e w5 ⟨rfl, hrg, hkp⟩
            have HR5 := Lib.hid (vs_snoc xs x1 ▸ hrg)
            have HM5 := Lib.hid (HM2.out.drew.kp hkp (by omega) (by omega))
            have HX5 := Lib.hid (blk_kp HX2.out.drew hkp (by omega))
            have HB5 := Lib.hid (below_kp (below_drew HB2.out) HB2.out.size hkp (fun k hk => by omega))
            have hB5 : B1 ≤ w5.heap.size := Nat.le_trans hBs hkp.size
            dsimp only
            refine hK.out _ _ (HX5.out.cell 1) (fun hHeld2 => ?_)
            clear hK K hrg hkp
            repeat (first | (refine seq_skip (by rfl) ?_; try simp only [Act.put, List.setIfInBounds_toArray, List.set_cons_zero, List.set_cons_succ]) | (refine seq_not (by rfl) (by assumption) ?_; try simp only [Act.put, List.setIfInBounds_toArray, List.set_cons_zero, List.set_cons_succ]) | (refine seq_take (v := ?_) (by rfl) ?_ ?_; rotate_left; (focus ((intro w hSw; (try dsimp only at hSw); go_simp; (try with_reducible rfl)); done)); try simp only [Act.put, List.setIfInBounds_toArray, List.set_cons_zero, List.set_cons_succ]))
            refine seq_do (fun K hK => ?_)
            go_simp
            go_at_call 11
            (with_reducible refine Calls.mono (rpush_ok B1 m room xs x1 _ HM5.out (by omega) r64 hB5 hmB) ?_)
            rintro e w6 ⟨rfl, hrf, hkp⟩
            have HM6 := Lib.hid hrf
            have HR6 := Lib.hid (HR5.out.kp hkp (by omega) (by omega))
            have HX6 := Lib.hid (blk_kp HX5.out hkp (by omega))
            have HB6 := Lib.hid (below_kp HB5.out HB5.out.size hkp (fun k hk => by omega))
            have hB6 : B1 ≤ w6.heap.size := Nat.le_trans hB5 hkp.size
            dsimp only
            refine hK.out _ _ (HX6.out.cell 1) (fun hHeld3 => ?_)
            clear hK K hrf hkp
            repeat (first | (refine seq_skip (by rfl) ?_; try simp only [Act.put, List.setIfInBounds_toArray, List.set_cons_zero, List.set_cons_succ]) | (refine seq_not (by rfl) (by assumption) ?_; try simp only [Act.put, List.setIfInBounds_toArray, List.set_cons_zero, List.set_cons_succ]) | (refine seq_take (v := ?_) (by rfl) ?_ ?_; rotate_left; (focus ((intro w hSw; (try dsimp only at hSw); go_simp; (try with_reducible rfl)); done)); try simp only [Act.put, List.setIfInBounds_toArray, List.set_cons_zero, List.set_cons_succ]))
            refine seq_done ?_
            clear hHeld1 hHeld2 hHeld3
            go_wp2
            go_meet
            exact ⟨xs ++ [x1], hB6, HR6.out, HM6.out, HB6.out⟩
        by_cases k2 : x0 = 2
        · as_aux_lemma =>
          subst k2
          rcases xs with _ | ⟨x, xs⟩
          · have HR3 := Lib.hid (show Rg 43 3 w2 p g room [] from HR2.out)
            go_wp2_with (first
              | (go_at_call 7; (with_reducible refine Calls.mono (RI.pop_none p g room _ HR3.out) ?_); rintro e w5 ⟨rfl, rfl⟩)
              | (go_at_call 12; (with_reducible refine Calls.mono (rpop_none B1 m room _ HM2.out) ?_); rintro e w5 ⟨rfl, rfl⟩))
            go_meet
            exact ⟨[], hBs, HR2.out, HM2.out, HB2.out⟩
          · go_wp2_with fail
            refine (RI.pop_ok p g room (.int .i64 x) (vs xs) _ HR2.out r64).mono ?_
            rintro e w5 ⟨rfl, hrg, hkp⟩
            have HR5 := Lib.hid hrg
            have HM5 := Lib.hid (HM2.out.kp hkp (by omega) (by omega))
            have HB5 := Lib.hid (below_kp HB2.out HB2.out.size hkp (fun k hk => by omega))
            have hB5 : B1 ≤ w5.heap.size := Nat.le_trans hBs hkp.size
            clear hrg hkp HR2 HM2 HX2 HB2 b1
            go_wp2_with fail
            refine (rpop_ok B1 m room x xs _ HM5.out hmB).mono ?_
            rintro e w6 ⟨rfl, hrf, hkp⟩
            have HM6 := Lib.hid hrf
            have HR6 := Lib.hid (HR5.out.kp hkp (by omega) (by omega))
            have HB6 := Lib.hid (below_kp HB5.out HB5.out.size hkp (fun k hk => by omega))
            have hB6 : B1 ≤ w6.heap.size := Nat.le_trans hB5 hkp.size
            clear hrf hkp
            go_wp2
            go_meet
            exact ⟨xs, hB6, HR6.out, HM6.out, HB6.out⟩
        by_cases k3 : x0 = 3
        · as_aux_lemma =>
          subst k3
          go_wp2_with fail
          refine (clear_ok p g room (vs xs) _ HR2.out r1).mono ?_
          rintro e w5 ⟨rfl, hrg, hkp⟩
          have HR5 := Lib.hid hrg
          have HM5 := Lib.hid (HM2.out.kp hkp (by omega) (by omega))
          have HB5 := Lib.hid (below_kp HB2.out HB2.out.size hkp (fun k hk => by omega))
          have hB5 : B1 ≤ w5.heap.size := Nat.le_trans hBs hkp.size
          clear hrg hkp HR2 HM2 HX2 HB2 b1
          obtain ⟨A, c, h1, _⟩ := HM5.out
          have H1 := Lib.hid h1
          have c1 := h1.cell 1
          have f1 := h1.frozen 1
          clear h1
          go_wp2
          go_meet
          refine ⟨[], by simp [World.setCell]; omega, ?_, ⟨none, 0, H1.out.set_ 1 _, Nat.le_refl _, Nat.zero_le _, Ri.nil, fun _ h => nomatch h⟩, HB5.out.setCell (p := ⟨m, 1, none⟩) hm0 _⟩
          exact HR5.out.kp (kp_set (S := fun k => k = m) (.inl rfl) (Kp.refl _ _)) (by omega) (by omega)
        have k0b : (x0 == 0) = false := by simpa using k0
        have k1b : (x0 == 1) = false := by simpa using k1
        have k2b : (x0 == 2) = false := by simpa using k2
        have k3b : (x0 == 3) = false := by simpa using k3
        clear k0 k1 k2 k3
        go_wp2
        go_meet
        exact ⟨xs, hBs, HR2.out, HM2.out, HB2.out⟩
      case rest =>
        clear HR2 HM2 HX2 HB2 b1 hbx hBs hxl
        obtain ⟨xs, hBs, hrg, hrf, hb⟩ := hcut
        have hxl := hrg.len_le
        rw [vs_len] at hxl
        obtain ⟨A, c, h1, h2, h3, h4, h5⟩ := hrf
        have HR2 := Lib.hid hrg
        have HM2 := Lib.hid (show Rf wc B1 m room xs from ⟨A, c, h1, h2, h3, h4, h5⟩)
        have HB2 := Lib.hid hb
        have HH := Lib.hid h1
        have CS := Lib.hid (show Calls Try.prog 10 #[.pointer (some ⟨p, 0, none⟩), .slice A xs.length c] wc.drew fun e w' => e = .returned (.bool true) ∧ Below wc.drew.heap.size wc.drew w' from same_ok _ A c xs wc.drew (.inr ⟨p, g, room, rfl, hrg.drewN 1, r1, r64, by have := hrg.lt; show ¬ wc.heap.size ≤ p; omega, by have := hrg.lt; show ¬ wc.heap.size ≤ g; omega⟩) (by omega) (fun j hj => by
          have := h4.drew.at_ hj
          rwa [List.getD_eq_getElem?_getD] at this))
        have CL := Lib.hid (show Calls Try.prog 9 #[.pointer (some ⟨p, 0, none⟩)] wc.drew fun e w' => e = .returned (.int .i64 xs.length) ∧ wc.drew = w' from vs_len xs ▸ RI.len_ok p g room (vs xs) _ (hrg.drewN 1))
        clear hrg hb h1 h2 h3 h4 h5
        go_wp2_with fail
        refine wp_region_seq [(0, true), (2, true), (3, true), (4, true), (5, true), (6, true), (1, false), (7, true), (8, true), (9, true), (10, true), (11, true), (12, true), (13, true), (14, false), (15, true), (16, true)] (fun w' => w'.cell? ⟨m, 1, none⟩ = some (.slice A xs.length c)) (by kernel_rfl) (by kernel_rfl) (HH.out.drew.cell 1) (fun hHeld1 => ?_)
        simp only [List.map_cons, List.map_nil, List.getElem?_toArray, List.getElem?_cons_zero, List.getElem?_cons_succ]
        repeat (first | (refine seq_skip (by rfl) ?_; try simp only [Act.put, List.setIfInBounds_toArray, List.set_cons_zero, List.set_cons_succ]) | (refine seq_not (by rfl) (by assumption) ?_; try simp only [Act.put, List.setIfInBounds_toArray, List.set_cons_zero, List.set_cons_succ]) | (refine seq_take (v := ?_) (by rfl) ?_ ?_; rotate_left; (focus ((intro w hSw; (try dsimp only at hSw); go_simp; (try with_reducible rfl)); done)); try simp only [Act.put, List.setIfInBounds_toArray, List.set_cons_zero, List.set_cons_succ]))
        refine seq_do (fun K hK => ?_)
        go_simp
        go_at_call 9
        (with_reducible refine Calls.mono CL.out ?_)
        rintro e w7 ⟨rfl, rfl⟩
        dsimp only
        refine hK.out _ _ (HH.out.drew.cell 1) (fun hHeld2 => ?_)
        clear hK K
        repeat (first | (refine seq_skip (by rfl) ?_; try simp only [Act.put, List.setIfInBounds_toArray, List.set_cons_zero, List.set_cons_succ]) | (refine seq_not (by rfl) (by assumption) ?_; try simp only [Act.put, List.setIfInBounds_toArray, List.set_cons_zero, List.set_cons_succ]) | (refine seq_take (v := ?_) (by rfl) ?_ ?_; rotate_left; (focus ((intro w hSw; (try dsimp only at hSw); go_simp; (try with_reducible rfl)); done)); try simp only [Act.put, List.setIfInBounds_toArray, List.set_cons_zero, List.set_cons_succ]))
        refine seq_do (fun K hK => ?_)
        go_simp
        go_at_call 10
        (with_reducible refine Calls.mono CS.out ?_)
        rintro e w7 ⟨rfl, hb⟩
        have HR7 := Lib.hid ((HR2.out.drewN 1).below hb)
        have HM7 := Lib.hid (HM2.out.drew.below hb)
        have HH7 := Lib.hid (HH.out.drew.keeps hb)
        have HB7 := Lib.hid ((below_drew HB2.out).trans (hb.mono HB2.out.size))
        have hs7 : wc.heap.size ≤ w7.heap.size := hb.size
        dsimp only
        refine hK.out _ _ (HH7.out.cell 1) (fun hHeld3 => ?_)
        clear hK K hb
        repeat (first | (refine seq_skip (by rfl) ?_; try simp only [Act.put, List.setIfInBounds_toArray, List.set_cons_zero, List.set_cons_succ]) | (refine seq_not (by rfl) (by assumption) ?_; try simp only [Act.put, List.setIfInBounds_toArray, List.set_cons_zero, List.set_cons_succ]) | (refine seq_take (v := ?_) (by rfl) ?_ ?_; rotate_left; (focus ((intro w hSw; (try dsimp only at hSw); go_simp; (try with_reducible rfl)); done)); try simp only [Act.put, List.setIfInBounds_toArray, List.set_cons_zero, List.set_cons_succ]))
        refine seq_done ?_
        clear hHeld1 hHeld2 hHeld3
        go_wp2
        go_roundw
        case rel => exact ⟨k + 1, xs, by omega, by go_num, by omega, HR7.out, HM7.out, HB7.out⟩
        case measure => simp [intOf]; omega
    · skip
      obtain ⟨A, c, h1, h2, h3, h4, h5⟩ := HM.out
      have HH := Lib.hid h1
      clear h1 h2 h3 h4 h5
      by_cases hs : a2 < 1
      · go_wp2_with fail
        refine wp_region_seq [(0, true), (1, true), (2, true), (3, true), (4, true), (6, true), (7, true), (8, true), (9, true), (10, true), (11, true), (12, true), (5, false), (13, true), (14, true), (15, true)] (fun w' => w'.cell? ⟨m, 1, none⟩ = some (.slice A xs.length c)) (by kernel_rfl) (by kernel_rfl) (HH.out.drew.cell 1) (fun hHeld1 => ?_)
        simp only [List.map_cons, List.map_nil, List.getElem?_toArray, List.getElem?_cons_zero, List.getElem?_cons_succ]
        repeat (first | (refine seq_skip (by rfl) ?_; try simp only [Act.put, List.setIfInBounds_toArray, List.set_cons_zero, List.set_cons_succ]) | (refine seq_not (by rfl) (by assumption) ?_; try simp only [Act.put, List.setIfInBounds_toArray, List.set_cons_zero, List.set_cons_succ]) | (refine seq_take (v := ?_) (by rfl) ?_ ?_; rotate_left; (focus ((intro w hSw; (try dsimp only at hSw); go_simp; (try with_reducible rfl)); done)); try simp only [Act.put, List.setIfInBounds_toArray, List.set_cons_zero, List.set_cons_succ]))
        refine seq_done ?_
        clear hHeld1
        go_wp2
        go_ret
        exact ⟨rfl, below_drew HB.out⟩
      · have hs1 : decide (a2 < 1) = false := by simpa using hs
        have hR := HR.out
        have CF := Lib.hid (first_ok (some ⟨p, 0, none⟩) a2 xs wr.drew (.inr ⟨p, g, room, rfl, hR.drewN 1, r1, r64, by have := hR.lt; show ¬ wr.heap.size ≤ p; omega, by have := hR.lt; show ¬ wr.heap.size ≤ g; omega⟩) (by omega) (by omega))
        clear hR
        go_wp2_with fail
        refine wp_region_seq [(0, true), (1, true), (2, true), (3, true), (4, true), (6, true), (7, true), (8, true), (9, true), (10, true), (11, true), (12, true), (5, false), (13, true), (14, true), (15, true)] (fun w' => w'.cell? ⟨m, 1, none⟩ = some (.slice A xs.length c)) (by kernel_rfl) (by kernel_rfl) (HH.out.drew.cell 1) (fun hHeld1 => ?_)
        simp only [List.map_cons, List.map_nil, List.getElem?_toArray, List.getElem?_cons_zero, List.getElem?_cons_succ]
        repeat (first | (refine seq_skip (by rfl) ?_; try simp only [Act.put, List.setIfInBounds_toArray, List.set_cons_zero, List.set_cons_succ]) | (refine seq_not (by rfl) (by assumption) ?_; try simp only [Act.put, List.setIfInBounds_toArray, List.set_cons_zero, List.set_cons_succ]) | (refine seq_take (v := ?_) (by rfl) ?_ ?_; rotate_left; (focus ((intro w hSw; (try dsimp only at hSw); go_simp; (try with_reducible rfl)); done)); try simp only [Act.put, List.setIfInBounds_toArray, List.set_cons_zero, List.set_cons_succ]))
        refine seq_do (fun K hK => ?_)
        go_simp
        go_at_call 13
        (with_reducible refine Calls.mono CF.out ?_)
        rintro e w7 ⟨rfl, hb⟩
        have HH7 := Lib.hid (HH.out.drew.keeps hb)
        have HB7 := Lib.hid ((below_drew HB.out).trans (hb.mono HB.out.size))
        dsimp only
        refine hK.out _ _ (HH7.out.cell 1) (fun hHeld2 => ?_)
        clear hK K hb
        repeat (first | (refine seq_skip (by rfl) ?_; try simp only [Act.put, List.setIfInBounds_toArray, List.set_cons_zero, List.set_cons_succ]) | (refine seq_not (by rfl) (by assumption) ?_; try simp only [Act.put, List.setIfInBounds_toArray, List.set_cons_zero, List.set_cons_succ]) | (refine seq_take (v := ?_) (by rfl) ?_ ?_; rotate_left; (focus ((intro w hSw; (try dsimp only at hSw); go_simp; (try with_reducible rfl)); done)); try simp only [Act.put, List.setIfInBounds_toArray, List.set_cons_zero, List.set_cons_succ]))
        refine seq_done ?_
        clear hHeld1 hHeld2
        go_wp2
        all_goals
          go_ret
          refine ⟨?_, HB7.out⟩
          first
            | rfl
            | (rw [show (min a2 (xs.length : Int) == (xs.length : Int)) = true by simp; omega]; rfl)
            | (rw [show (min a2 (xs.length : Int) == a2) = true by simp; omega]; rfl)
end Go.Proofs.Ytjmakjfnhffehaa.RingDoesW
