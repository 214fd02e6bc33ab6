/- In every script each answer, and the log, are the document's; a nil log. -/
import Derived.Test.YtlaolclepmbdjaaSame
import Derived.Test.YtlaolclepmbdjaaSq
import Derived.Test.YtlaolclepmbdjaaLf
import Derived.Deep.CutBlock
import Derived.Deep.DeepCutAuto
import Derived.BigRegion
namespace Go.Proofs.Ytlaolclepmbdjaa.EventDoesW
open Go.RowKit Go.Proofs.Ytlaolclepmbdjaa.Bk Go.Proofs.Ytlaolclepmbdjaa.Rw Go.Proofs.Ytlaolclepmbdjaa.Ow Go.Proofs.Ytlaolclepmbdjaa.Kp Go.Proofs.Ytlaolclepmbdjaa.Sq Go.Proofs.Ytlaolclepmbdjaa.Ck Go.Proofs.Ytlaolclepmbdjaa.Ck2 Go.Proofs.Ytlaolclepmbdjaa.Label Go.Proofs.Ytlaolclepmbdjaa.Evr Go.Proofs.Ytlaolclepmbdjaa.Evt Go.Proofs.Ytlaolclepmbdjaa.Cl Go.Proofs.Ytlaolclepmbdjaa.Rl Go.Proofs.Ytlaolclepmbdjaa.Rt Go.Proofs.Ytlaolclepmbdjaa.It

theorem elem0 {w : World} {A : Option Addr} {len : Nat} {vs : List (List Value)} (h : Lf.RowsAt w [.i .i64, .s, .i .i64, .i .i64, .i .i64, .i .i64, .i .u16, .i .i64] A len vs) {k : Nat} (hk : k < len) :
    ∃ (ad : Addr) (x0 : Int) (x1 : ByteArray) (x2 : Int) (x3 : Int) (x4 : Int) (x5 : Int) (x6 : Int) (x7 : Int), A = some ad ∧ vs[k]? = some [.int .i64 x0, .string x1, .int .i64 x2, .int .i64 x3, .int .i64 x4, .int .i64 x5, .int .u16 x6, .int .i64 x7] ∧ w.cell? (ad.add (k * 8)) = some (.int .i64 x0) ∧ w.cell? ⟨(ad.add (k * 8)).block, (ad.add (k * 8)).off + 1, none⟩ = some (.string x1) ∧ w.cell? ⟨(ad.add (k * 8)).block, (ad.add (k * 8)).off + 2, none⟩ = some (.int .i64 x2) ∧ w.cell? ⟨(ad.add (k * 8)).block, (ad.add (k * 8)).off + 3, none⟩ = some (.int .i64 x3) ∧ w.cell? ⟨(ad.add (k * 8)).block, (ad.add (k * 8)).off + 4, none⟩ = some (.int .i64 x4) ∧ w.cell? ⟨(ad.add (k * 8)).block, (ad.add (k * 8)).off + 5, none⟩ = some (.int .i64 x5) ∧ w.cell? ⟨(ad.add (k * 8)).block, (ad.add (k * 8)).off + 6, none⟩ = some (.int .u16 x6) ∧ w.cell? ⟨(ad.add (k * 8)).block, (ad.add (k * 8)).off + 7, none⟩ = some (.int .i64 x7) ∧ (Lit.int .i64 x0).wf = true ∧ (x1.size ≤ maxLen) ∧ (Lit.int .i64 x2).wf = true ∧ (Lit.int .i64 x3).wf = true ∧ (Lit.int .i64 x4).wf = true ∧ (Lit.int .i64 x5).wf = true ∧ (Lit.int .u16 x6).wf = true ∧ (Lit.int .i64 x7).wf = true := by
  obtain ⟨ad, c, rfl, hv, hL, hc0, hcj⟩ := h.elem hk
  obtain ⟨u0, g0, q0, ⟨x0, e0, f0⟩, L0⟩ := hL.cons
  obtain ⟨u1, g1, q1, ⟨x1, e1, f1⟩, L1⟩ := L0.cons
  obtain ⟨u2, g2, q2, ⟨x2, e2, f2⟩, L2⟩ := L1.cons
  obtain ⟨u3, g3, q3, ⟨x3, e3, f3⟩, L3⟩ := L2.cons
  obtain ⟨u4, g4, q4, ⟨x4, e4, f4⟩, L4⟩ := L3.cons
  obtain ⟨u5, g5, q5, ⟨x5, e5, f5⟩, L5⟩ := L4.cons
  obtain ⟨u6, g6, q6, ⟨x6, e6, f6⟩, L6⟩ := L5.cons
  obtain ⟨u7, g7, q7, ⟨x7, e7, f7⟩, L7⟩ := L6.cons
  have n_ := L7.nil
  have hcc : c = [.int .i64 x0, .string x1, .int .i64 x2, .int .i64 x3, .int .i64 x4, .int .i64 x5, .int .u16 x6, .int .i64 x7] := by rw [q0, e0, q1, e1, q2, e2, q3, e3, q4, e4, q5, e5, q6, e6, q7, e7, n_]
  rw [hcc] at hv hc0 hcj
  exact ⟨ad, x0, x1, x2, x3, x4, x5, x6, x7, rfl, hv, hc0 _ rfl, hcj 0 _ rfl, hcj 1 _ rfl, hcj 2 _ rfl, hcj 3 _ rfl, hcj 4 _ rfl, hcj 5 _ rfl, hcj 6 _ rfl, f0, f1, f2, f3, f4, f5, f6, f7⟩
abbrev Inv (W w : World) (l p g K : Nat) (v : Value) : Prop :=
  ∃ (q : List Ev) (n m B1 : Nat), v = .pointer (some ⟨m, 0, none⟩) ∧ n ≤ K ∧ Lg w l p g q n ∧ Rl w B1 m q n ∧ l < m ∧ p < m ∧ g < m ∧ m < B1 ∧ B1 ≤ w.heap.size ∧ W.heap.size ≤ m ∧ Below W.heap.size W w
theorem rl_zero (w : World) : Rl (w.alloc (.cells #[.slice none 0 0, .slice none 0 0, .int .i64 0] 49)) (w.heap.size + 1) w.heap.size [] (0 : Nat) :=
  ⟨none, 0, none, 0, Blk.new _ _ _, Sv.nil _ _, Sv.nil _ _⟩

set_option maxRecDepth 100000 in
set_option maxHeartbeats 4000000 in
set_option linter.unusedVariables false in
theorem walk (a0 : Option Addr) (len0 cap0 : Nat) (z0 : List (List Value)) (W : World) (l0 : len0 ≤ cap0) (m0 : cap0 ≤ maxLen) (w0 : Lf.RowsAt W [.i .i64, .s, .i .i64, .i .i64, .i .i64, .i .i64, .i .u16, .i .i64] a0 len0 z0) :
    Calls Try.prog 5 #[.slice a0 len0 cap0] W fun e w' => e = .returned (.bool true) ∧ Below W.heap.size W w' := by
  have hl8 : len0 ≤ 9223372036854775807 := by unfold maxLen at m0; omega
  have R := Lib.hid w0
  clear w0 l0 m0
  by_cases c3 : (200 : Int) < len0
  · go_enter Try.func5, Try.ntmps5
    go_wp2_with (go_at_call 6; refine (alive_ok _).mono ?_; rintro e w1 ⟨rfl, hb⟩; have HB := Lib.hid hb; clear hb)
    go_ret
    exact ⟨rfl, HB.out⟩
  have SN := Lib.hid (fun m B1 w (h : Rl w B1 m [] ((0 : Nat) : Int)) => same_ok none m B1 [] ((0 : Nat) : Int) w (.inl ⟨rfl, rfl⟩) h (by decide))
  go_enter Try.func5, Try.ntmps5
  go_wp2_with fail
  refine (alive_ok _).mono ?_
  rintro e w1 ⟨rfl, hb⟩
  have HB1 := Lib.hid hb
  clear hb
  go_wp2_with fail
  refine (log_new _).mono ?_
  rintro e w2 ⟨l, p, g, rfl, hlg, hl, hp, hg, hb⟩
  have HL2 := Lib.hid hlg
  have HB2 := Lib.hid (HB1.out.trans (hb.mono HB1.out.size))
  have hlW : W.heap.size ≤ l := Nat.le_trans HB1.out.size hl
  have hpW : W.heap.size ≤ p := Nat.le_trans HB1.out.size hp
  have hgW : W.heap.size ≤ g := Nat.le_trans HB1.out.size hg
  have hl2 := hlg.box.lt
  have hpg2 := hlg.ring.lt
  clear hlg hb hl hp hg HB1
  have HM2 := Lib.hid (rl_zero w2)
  have HL3 := Lib.hid (HL2.out.below ((Below.refl _ _).alloc (Nat.le_refl _) (.cells #[.slice none 0 0, .slice none 0 0, .int .i64 0] 49)))
  have HB3 := Lib.hid (HB2.out.alloc HB2.out.size (.cells #[.slice none 0 0, .slice none 0 0, .int .i64 0] 49))
  have hB1 : w2.heap.size + 1 ≤ (w2.alloc (.cells #[.slice none 0 0, .slice none 0 0, .int .i64 0] 49)).heap.size := by simp
  have hm0 := HB2.out.size
  clear HL2 HB2
  go_wp2_with fail
  generalize w2.alloc (.cells #[.slice none 0 0, .slice none 0 0, .int .i64 0] 49) = w3 at HM2 HL3 HB3 hB1 ⊢
  generalize w2.heap.size = m at HM2 hB1 hm0 hl2 hpg2 ⊢
  obtain ⟨B1, hB1e⟩ : ∃ B1, m + 1 = B1 := ⟨_, rfl⟩
  rw [hB1e] at HM2 hB1
  have hmB : m < B1 := by omega
  clear hB1e
  refine (lclear_nil _).mono ?_
  rintro e w4 ⟨rfl, rfl⟩
  go_upto_region 13 with (first
    | (go_at_call 11; (with_reducible refine Calls.mono (ltag_nil _ _ _ _ _ _ _ _) ?_); rintro e w4 ⟨rfl, hb⟩; have HL4 := Lib.hid (HL3.out.below hb); have HM4 := Lib.hid (HM2.out.below hb); have HB4 := Lib.hid (HB3.out.trans (hb.mono HB3.out.size)); have hB4 := Nat.le_trans hB1 hb.size; clear hb)
    | (go_at_call 10; (with_reducible refine Calls.mono (ltake_nil _) ?_); rintro e w5 ⟨rfl, hb⟩; have HL5 := Lib.hid ((HL4.out.below hb).below ((Below.refl _ _).alloc (Nat.le_refl _) (.cells #[.int .i64 0, .string ByteArray.empty, .int .i64 0, .int .i64 0, .int .i64 0, .int .i64 0, .int .u16 0, .int .i64 0] 37))); have HM5 := Lib.hid ((HM4.out.below hb).alloc (.cells #[.int .i64 0, .string ByteArray.empty, .int .i64 0, .int .i64 0, .int .i64 0, .int .i64 0, .int .u16 0, .int .i64 0] 37)); have HB5 := Lib.hid ((HB4.out.trans (hb.mono HB4.out.size)).alloc (Nat.le_trans HB4.out.size hb.size) (.cells #[.int .i64 0, .string ByteArray.empty, .int .i64 0, .int .i64 0, .int .i64 0, .int .i64 0, .int .u16 0, .int .i64 0] 37)); have hB5 := Nat.le_trans hB4 hb.size; clear hb; dsimp only [ev0, Ev.v])
    | (go_at_call 12; (with_reducible refine Calls.mono (llen_nil _) ?_); rintro e w6 ⟨rfl, rfl⟩)
    | (go_at_call 14; (with_reducible refine Calls.mono (SN.out _ _ _ HM5.out) ?_); rintro e w6 ⟨rfl, hb⟩; have HL6 := Lib.hid (HL5.out.below hb); have HM6 := Lib.hid (HM5.out.below hb); have HB6 := Lib.hid (HB5.out.trans (hb.mono HB5.out.size)); have hB6 : B1 ≤ w6.heap.size := Nat.le_trans hB5 (Nat.le_trans (by simp) hb.size); clear hb))
  clear SN HL3 HM2 HB3 HL4 HM4 HB4 HL5 HM5 HB5 hB1 hB4 hB5
  go_wp2_with fail
  go_loopw [4, 60] (fun v i wr => ∃ k : Nat, k ≤ len0 ∧ i = .int .i64 k ∧ Inv W wr l p g k v) (fun _ i _ => len0 - (intOf i).toNat)
  case atStart => exact ⟨0, Nat.zero_le _, rfl, [], 0, m, B1, rfl, Nat.le_refl _, HL6.out, HM6.out, hl2, hpg2.1, hpg2.2.1, hmB, hB6, hm0, HB6.out⟩
  case round =>
    clear HL6 HM6 HB6 hB6 hmB hl2 hm0
    have hpg := hpg2.2.2
    clear hpg2
    obtain ⟨k, hk, rfl, q, n, m, B1, rfl, hn, hlg, hrl, hlm, hpm, hgm, hmB, hB1, hWm, hb⟩ := hrel
    have HL := Lib.hid hlg
    have HM := Lib.hid hrl
    have HB := Lib.hid hb
    have hql := hlg.ring.len_le
    clear hlg hrl hb
    by_cases hlt : k < len0
    · obtain ⟨ad, x0, s, x2, x3, x4, x5, x6, x7, rfl, _, e0, e1, e2, e3, e4, e5, e6, e7, v0, v1, v2, v3, v4, v5, v6, v7⟩ := elem0 (R.out.below HB.out) hlt
      clear v0 v1 v2 v3 v4 v5 v6 v7
      have HL2 := Lib.hid (HL.out.below ((Below.refl _ _).alloc (Nat.le_refl _) (.cells #[.int .i64 x0, .string s, .int .i64 x2, .int .i64 x3, .int .i64 x4, .int .i64 x5, .int .u16 x6, .int .i64 x7] 35)))
      have HM2 := Lib.hid (HM.out.alloc (.cells #[.int .i64 x0, .string s, .int .i64 x2, .int .i64 x3, .int .i64 x4, .int .i64 x5, .int .u16 x6, .int .i64 x7] 35))
      have HX2 := Lib.hid (Blk.new wr 35 #[.int .i64 x0, .string s, .int .i64 x2, .int .i64 x3, .int .i64 x4, .int .i64 x5, .int .u16 x6, .int .i64 x7])
      have HB2 := Lib.hid (HB.out.alloc HB.out.size (.cells #[.int .i64 x0, .string s, .int .i64 x2, .int .i64 x3, .int .i64 x4, .int .i64 x5, .int .u16 x6, .int .i64 x7] 35))
      have hbx := hB1
      have hBs : B1 ≤ (wr.alloc (.cells #[.int .i64 x0, .string s, .int .i64 x2, .int .i64 x3, .int .i64 x4, .int .i64 x5, .int .u16 x6, .int .i64 x7] 35)).heap.size := by simp; omega
      clear HL HM HB hB1
      by_cases hs : (1000 : Int) < s.size
      · go_wp2
        go_ret
        exact ⟨rfl, HB2.out⟩
      go_upto_block 2 with fail
      clear e0 e1 e2 e3 e4 e5 e6 e7
      have hs2 : s.size ≤ 140737488355328 := by omega
      have hn1 : n ≤ 1000 := by omega
      generalize wr.alloc (.cells #[.int .i64 x0, .string s, .int .i64 x2, .int .i64 x3, .int .i64 x4, .int .i64 x5, .int .u16 x6, .int .i64 x7] 35) = w2 at HL2 HM2 HX2 HB2 hBs ⊢
      generalize wr.heap.size = bx at HX2 hbx ⊢
      have b1 := HX2.out.cell 1
      have b2 := HX2.out.cell 2
      have b3 := HX2.out.cell 3
      have b4 := HX2.out.cell 4
      have b5 := HX2.out.cell 5
      have b6 := HX2.out.cell 6
      have b7 := HX2.out.cell 7
      have b0 := HX2.out.cell 0
      go_cut [4] (fun v wx => Inv W wx l p g (k + 1) v)
      case first =>
        by_cases k0 : x0 = 0
        · as_aux_lemma =>
          subst k0
          by_cases hlb : Lab s = true
          · have CG := Lib.hid (fun w => hlb ▸ good_ok s w hs2)
            have CR := Lib.hid (fun w => hlb ▸ refgood_ok s w hs2)
            by_cases hfull : q.length = 16
            · have C1 := Lib.hid (tag_full l p g n q s hs2 hlb x2 x3 x4 x5 x6 x7 w2 HL2.out hfull hn1)
              go_wp2_with fail
              refine C1.out.mono ?_
              rintro e w5 ⟨rfl, hb⟩
              have HL6 := Lib.hid (HL2.out.below hb)
              have HM6 := Lib.hid (HM2.out.below hb)
              have HX6 := Lib.hid (HX2.out.keeps hb)
              have HB6 := Lib.hid (HB2.out.trans (hb.mono HB2.out.size))
              have hB6 : B1 ≤ w5.heap.size := Nat.le_trans hBs hb.size
              have y1 := HX6.out.cell 1
              clear hb HL2 HM2 HX2 HB2 C1 b0 b1 b2 b3 b4 b5 b6 b7
              have C2 := Lib.hid (rtag_full B1 m q n s hs2 hlb w5 HM6.out (by omega))
              go_wp2_with fail
              refine C2.out.mono ?_
              rintro e w6 ⟨rfl, hb⟩
              have HL5 := Lib.hid (HL6.out.below hb)
              have HM5 := Lib.hid (HM6.out.below hb)
              have HX5 := Lib.hid (HX6.out.keeps hb)
              have HB5 := Lib.hid (HB6.out.trans (hb.mono HB6.out.size))
              have hB5 : B1 ≤ w6.heap.size := Nat.le_trans hB6 hb.size
              clear hb HL6 HM6 HX6 HB6 hB6 C2 y1
              have HL6 := HL5
              have HM6 := HM5
              have HX6 := HX5
              have HB6 := HB5
              have hB6 := hB5
              clear HL5 HM5 HX5 HB5 hB5
              go_wp2_with fail
              refine wp_region_seq [(0, true), (1, true), (2, true), (3, true), (4, true), (5, true), (6, true), (7, true), (8, true), (9, true), (10, true), (12, true), (13, true), (11, false), (14, false), (15, true), (16, true)] (fun w' => w'.cell? ⟨bx, 1, none⟩ = some (.string s)) (by kernel_rfl) (by kernel_rfl) (HX6.out.drew.cell 1) (fun hHeld1 => ?_)
              simp only [List.map_cons, List.map_nil, List.getElem?_toArray, List.getElem?_cons_zero, List.getElem?_cons_succ]
              repeat (first | (refine seq_skip (by rfl) ?_; try simp only [Act.put, List.setIfInBounds_toArray, List.set_cons_zero, List.set_cons_succ]) | (refine seq_not (by rfl) (by assumption) ?_; try simp only [Act.put, List.setIfInBounds_toArray, List.set_cons_zero, List.set_cons_succ]) | (refine seq_take (v := ?_) (by rfl) ?_ ?_; rotate_left; (focus ((intro w hSw; (try dsimp only at hSw); go_simp; (try with_reducible rfl)); done)); try simp only [Act.put, List.setIfInBounds_toArray, List.set_cons_zero, List.set_cons_succ]))
              refine seq_do (fun K hK => ?_)
              go_simp
              go_at_call 7
              (with_reducible refine Calls.mono (CG.out _) ?_)
              rintro e w7 ⟨rfl, hb⟩
              have HL7 := Lib.hid (HL6.out.drew.below hb)
              have HM7 := Lib.hid (HM6.out.drew.below hb)
              have HX7 := Lib.hid (HX6.out.drew.keeps hb)
              have HB7 := Lib.hid ((below_drew HB6.out).trans (hb.mono HB6.out.size))
              have hB7 : B1 ≤ w7.heap.size := Nat.le_trans hB6 hb.size
              dsimp only
              refine hK.out _ _ (HX7.out.cell 1) (fun hHeld2 => ?_)
              clear hK K hb
              repeat (first | (refine seq_skip (by rfl) ?_; try simp only [Act.put, List.setIfInBounds_toArray, List.set_cons_zero, List.set_cons_succ]) | (refine seq_not (by rfl) (by assumption) ?_; try simp only [Act.put, List.setIfInBounds_toArray, List.set_cons_zero, List.set_cons_succ]) | (refine seq_take (v := ?_) (by rfl) ?_ ?_; rotate_left; (focus ((intro w hSw; (try dsimp only at hSw); go_simp; (try with_reducible rfl)); done)); try simp only [Act.put, List.setIfInBounds_toArray, List.set_cons_zero, List.set_cons_succ]))
              refine seq_do (fun K hK => ?_)
              go_simp
              go_at_call 8
              (with_reducible refine Calls.mono (CR.out _) ?_)
              rintro e w8 ⟨rfl, rfl⟩
              dsimp only
              refine hK.out _ _ (HX7.out.cell 1) (fun hHeld3 => ?_)
              clear hK K
              repeat (first | (refine seq_skip (by rfl) ?_; try simp only [Act.put, List.setIfInBounds_toArray, List.set_cons_zero, List.set_cons_succ]) | (refine seq_not (by rfl) (by assumption) ?_; try simp only [Act.put, List.setIfInBounds_toArray, List.set_cons_zero, List.set_cons_succ]) | (refine seq_take (v := ?_) (by rfl) ?_ ?_; rotate_left; (focus ((intro w hSw; (try dsimp only at hSw); go_simp; (try with_reducible rfl)); done)); try simp only [Act.put, List.setIfInBounds_toArray, List.set_cons_zero, List.set_cons_succ]))
              refine seq_done ?_
              clear hHeld1 hHeld2 hHeld3
              go_wp2
              go_meet
              exact ⟨q, n, m, B1, rfl, by omega, HL7.out, HM7.out, hlm, hpm, hgm, hmB, hB7, hWm, HB7.out⟩
            · have C1 := Lib.hid (show Calls Try.prog 11 #[.pointer (some ⟨l, 0, none⟩), .string s, .int .i64 x2, .agg #[.int .i64 x3, .int .i64 x4, .int .i64 x5, .int .u16 x6, .int .i64 x7]] w2 fun x w' => x = .returned (.tuple #[.int .i64 ((n : Int) + 1), .int .i64 0]) ∧ Lg w' l p g (q ++ [⟨(n : Int) + 1, s, x2, x3, x4, x5, x6, x7⟩]) (n + 1) ∧ Kp (fun k => k = l ∨ k = p ∨ k = g) w2 w' from tag_ok l p g n q s hs2 hlb x2 x3 x4 x5 x6 x7 w2 HL2.out (by omega) hn1)
              go_wp2_with fail
              refine C1.out.mono ?_
              rintro e w5 ⟨rfl, hlg, hkp⟩
              have HL6 := Lib.hid hlg
              have HM6 := Lib.hid (HM2.out.kp hkp (by omega) (by omega))
              have HX6 := Lib.hid (blk_kp HX2.out hkp (by omega))
              have HB6 := Lib.hid (below_kp HB2.out HB2.out.size hkp (fun k hk => by omega))
              have hB6 : B1 ≤ w5.heap.size := Nat.le_trans hBs hkp.size
              have y1 := HX6.out.cell 1
              clear hlg hkp HL2 HM2 HX2 HB2 C1 b0 b1 b2 b3 b4 b5 b6 b7
              have C2 := Lib.hid (rtag_ok B1 m q n s hs2 hlb w5 HM6.out hmB hB6 (by omega) (IntWalk.i64_in _ (by omega)) ⟨(n : Int) + 1, s, x2, x3, x4, x5, x6, x7⟩ rfl rfl)
              go_wp2_with fail
              refine C2.out.mono ?_
              rintro e w6 ⟨rfl, hrl, hkp⟩
              have HL5 := Lib.hid (HL6.out.kp hkp (by omega) (by omega) (by omega))
              have HM5 := Lib.hid (show Rl w6 B1 m (q ++ [⟨(n : Int) + 1, s, x2, x3, x4, x5, x6, x7⟩]) ((n + 1 : Nat) : Int) from hrl)
              have HX5 := Lib.hid (blk_kp HX6.out hkp (by omega))
              have HB5 := Lib.hid (below_kp HB6.out HB6.out.size hkp (fun k hk => by omega))
              have hB5 : B1 ≤ w6.heap.size := Nat.le_trans hB6 hkp.size
              clear hrl hkp HL6 HM6 HX6 HB6 hB6 C2 y1
              have HL6 := HL5
              have HM6 := HM5
              have HX6 := HX5
              have HB6 := HB5
              have hB6 := hB5
              clear HL5 HM5 HX5 HB5 hB5
              go_wp2_with fail
              refine wp_region_seq [(0, true), (1, true), (2, true), (3, true), (4, true), (5, true), (6, true), (7, true), (8, true), (9, true), (10, true), (12, true), (13, true), (11, false), (14, false), (15, true), (16, true)] (fun w' => w'.cell? ⟨bx, 1, none⟩ = some (.string s)) (by kernel_rfl) (by kernel_rfl) (HX6.out.drew.cell 1) (fun hHeld1 => ?_)
              simp only [List.map_cons, List.map_nil, List.getElem?_toArray, List.getElem?_cons_zero, List.getElem?_cons_succ]
              repeat (first | (refine seq_skip (by rfl) ?_; try simp only [Act.put, List.setIfInBounds_toArray, List.set_cons_zero, List.set_cons_succ]) | (refine seq_not (by rfl) (by assumption) ?_; try simp only [Act.put, List.setIfInBounds_toArray, List.set_cons_zero, List.set_cons_succ]) | (refine seq_take (v := ?_) (by rfl) ?_ ?_; rotate_left; (focus ((intro w hSw; (try dsimp only at hSw); go_simp; (try with_reducible rfl)); done)); try simp only [Act.put, List.setIfInBounds_toArray, List.set_cons_zero, List.set_cons_succ]))
              refine seq_do (fun K hK => ?_)
              go_simp
              go_at_call 7
              (with_reducible refine Calls.mono (CG.out _) ?_)
              rintro e w7 ⟨rfl, hb⟩
              have HL7 := Lib.hid (HL6.out.drew.below hb)
              have HM7 := Lib.hid (HM6.out.drew.below hb)
              have HX7 := Lib.hid (HX6.out.drew.keeps hb)
              have HB7 := Lib.hid ((below_drew HB6.out).trans (hb.mono HB6.out.size))
              have hB7 : B1 ≤ w7.heap.size := Nat.le_trans hB6 hb.size
              dsimp only
              refine hK.out _ _ (HX7.out.cell 1) (fun hHeld2 => ?_)
              clear hK K hb
              repeat (first | (refine seq_skip (by rfl) ?_; try simp only [Act.put, List.setIfInBounds_toArray, List.set_cons_zero, List.set_cons_succ]) | (refine seq_not (by rfl) (by assumption) ?_; try simp only [Act.put, List.setIfInBounds_toArray, List.set_cons_zero, List.set_cons_succ]) | (refine seq_take (v := ?_) (by rfl) ?_ ?_; rotate_left; (focus ((intro w hSw; (try dsimp only at hSw); go_simp; (try with_reducible rfl)); done)); try simp only [Act.put, List.setIfInBounds_toArray, List.set_cons_zero, List.set_cons_succ]))
              refine seq_do (fun K hK => ?_)
              go_simp
              go_at_call 8
              (with_reducible refine Calls.mono (CR.out _) ?_)
              rintro e w8 ⟨rfl, rfl⟩
              dsimp only
              refine hK.out _ _ (HX7.out.cell 1) (fun hHeld3 => ?_)
              clear hK K
              repeat (first | (refine seq_skip (by rfl) ?_; try simp only [Act.put, List.setIfInBounds_toArray, List.set_cons_zero, List.set_cons_succ]) | (refine seq_not (by rfl) (by assumption) ?_; try simp only [Act.put, List.setIfInBounds_toArray, List.set_cons_zero, List.set_cons_succ]) | (refine seq_take (v := ?_) (by rfl) ?_ ?_; rotate_left; (focus ((intro w hSw; (try dsimp only at hSw); go_simp; (try with_reducible rfl)); done)); try simp only [Act.put, List.setIfInBounds_toArray, List.set_cons_zero, List.set_cons_succ]))
              refine seq_done ?_
              clear hHeld1 hHeld2 hHeld3
              go_wp2
              go_meet
              exact ⟨_, n + 1, m, B1, rfl, by omega, HL7.out, HM7.out, hlm, hpm, hgm, hmB, hB7, hWm, HB7.out⟩
          · have hlf : Lab s = false := by simpa using hlb
            have CG := Lib.hid (fun w => hlf ▸ good_ok s w hs2)
            have CR := Lib.hid (fun w => hlf ▸ refgood_ok s w hs2)
            have C1 := Lib.hid (tag_bad l s hs2 hlf x2 x3 x4 x5 x6 x7 w2)
            go_wp2_with fail
            refine C1.out.mono ?_
            rintro e w5 ⟨rfl, hb⟩
            have HL6 := Lib.hid (HL2.out.below hb)
            have HM6 := Lib.hid (HM2.out.below hb)
            have HX6 := Lib.hid (HX2.out.keeps hb)
            have HB6 := Lib.hid (HB2.out.trans (hb.mono HB2.out.size))
            have hB6 : B1 ≤ w5.heap.size := Nat.le_trans hBs hb.size
            have y1 := HX6.out.cell 1
            clear hb HL2 HM2 HX2 HB2 C1 b0 b1 b2 b3 b4 b5 b6 b7
            have C2 := Lib.hid (rtag_bad m s hs2 hlf w5)
            go_wp2_with fail
            refine C2.out.mono ?_
            rintro e w6 ⟨rfl, hb⟩
            have HL5 := Lib.hid (HL6.out.below hb)
            have HM5 := Lib.hid (HM6.out.below hb)
            have HX5 := Lib.hid (HX6.out.keeps hb)
            have HB5 := Lib.hid (HB6.out.trans (hb.mono HB6.out.size))
            have hB5 : B1 ≤ w6.heap.size := Nat.le_trans hB6 hb.size
            clear hb HL6 HM6 HX6 HB6 hB6 C2 y1
            have HL6 := HL5
            have HM6 := HM5
            have HX6 := HX5
            have HB6 := HB5
            have hB6 := hB5
            clear HL5 HM5 HX5 HB5 hB5
            go_wp2_with fail
            refine wp_region_seq [(0, true), (1, true), (2, true), (3, true), (4, true), (5, true), (6, true), (7, true), (8, true), (9, true), (10, true), (12, true), (13, true), (11, false), (14, false), (15, true), (16, true)] (fun w' => w'.cell? ⟨bx, 1, none⟩ = some (.string s)) (by kernel_rfl) (by kernel_rfl) (HX6.out.drew.cell 1) (fun hHeld1 => ?_)
            simp only [List.map_cons, List.map_nil, List.getElem?_toArray, List.getElem?_cons_zero, List.getElem?_cons_succ]
            repeat (first | (refine seq_skip (by rfl) ?_; try simp only [Act.put, List.setIfInBounds_toArray, List.set_cons_zero, List.set_cons_succ]) | (refine seq_not (by rfl) (by assumption) ?_; try simp only [Act.put, List.setIfInBounds_toArray, List.set_cons_zero, List.set_cons_succ]) | (refine seq_take (v := ?_) (by rfl) ?_ ?_; rotate_left; (focus ((intro w hSw; (try dsimp only at hSw); go_simp; (try with_reducible rfl)); done)); try simp only [Act.put, List.setIfInBounds_toArray, List.set_cons_zero, List.set_cons_succ]))
            refine seq_do (fun K hK => ?_)
            go_simp
            go_at_call 7
            (with_reducible refine Calls.mono (CG.out _) ?_)
            rintro e w7 ⟨rfl, hb⟩
            have HL7 := Lib.hid (HL6.out.drew.below hb)
            have HM7 := Lib.hid (HM6.out.drew.below hb)
            have HX7 := Lib.hid (HX6.out.drew.keeps hb)
            have HB7 := Lib.hid ((below_drew HB6.out).trans (hb.mono HB6.out.size))
            have hB7 : B1 ≤ w7.heap.size := Nat.le_trans hB6 hb.size
            dsimp only
            refine hK.out _ _ (HX7.out.cell 1) (fun hHeld2 => ?_)
            clear hK K hb
            repeat (first | (refine seq_skip (by rfl) ?_; try simp only [Act.put, List.setIfInBounds_toArray, List.set_cons_zero, List.set_cons_succ]) | (refine seq_not (by rfl) (by assumption) ?_; try simp only [Act.put, List.setIfInBounds_toArray, List.set_cons_zero, List.set_cons_succ]) | (refine seq_take (v := ?_) (by rfl) ?_ ?_; rotate_left; (focus ((intro w hSw; (try dsimp only at hSw); go_simp; (try with_reducible rfl)); done)); try simp only [Act.put, List.setIfInBounds_toArray, List.set_cons_zero, List.set_cons_succ]))
            refine seq_do (fun K hK => ?_)
            go_simp
            go_at_call 8
            (with_reducible refine Calls.mono (CR.out _) ?_)
            rintro e w8 ⟨rfl, rfl⟩
            dsimp only
            refine hK.out _ _ (HX7.out.cell 1) (fun hHeld3 => ?_)
            clear hK K
            repeat (first | (refine seq_skip (by rfl) ?_; try simp only [Act.put, List.setIfInBounds_toArray, List.set_cons_zero, List.set_cons_succ]) | (refine seq_not (by rfl) (by assumption) ?_; try simp only [Act.put, List.setIfInBounds_toArray, List.set_cons_zero, List.set_cons_succ]) | (refine seq_take (v := ?_) (by rfl) ?_ ?_; rotate_left; (focus ((intro w hSw; (try dsimp only at hSw); go_simp; (try with_reducible rfl)); done)); try simp only [Act.put, List.setIfInBounds_toArray, List.set_cons_zero, List.set_cons_succ]))
            refine seq_done ?_
            clear hHeld1 hHeld2 hHeld3
            go_wp2
            go_meet
            exact ⟨q, n, m, B1, rfl, by omega, HL7.out, HM7.out, hlm, hpm, hgm, hmB, hB7, hWm, HB7.out⟩
        by_cases k1 : x0 = 1
        · as_aux_lemma =>
          subst k1
          by_cases hlb : Lab s = true
          · have CG := Lib.hid (fun w => hlb ▸ good_ok s w hs2)
            have CR := Lib.hid (fun w => hlb ▸ refgood_ok s w hs2)
            by_cases hfull : q.length = 16
            · have C1 := Lib.hid (tag_full l p g n q s hs2 hlb x2 x3 x4 x5 x6 x7 w2 HL2.out hfull hn1)
              go_wp2_with fail
              refine C1.out.mono ?_
              rintro e w5 ⟨rfl, hb⟩
              have HL6 := Lib.hid (HL2.out.below hb)
              have HM6 := Lib.hid (HM2.out.below hb)
              have HX6 := Lib.hid (HX2.out.keeps hb)
              have HB6 := Lib.hid (HB2.out.trans (hb.mono HB2.out.size))
              have hB6 : B1 ≤ w5.heap.size := Nat.le_trans hBs hb.size
              have y1 := HX6.out.cell 1
              clear hb HL2 HM2 HX2 HB2 C1 b0 b1 b2 b3 b4 b5 b6 b7
              have C2 := Lib.hid (rtag_full B1 m q n s hs2 hlb w5 HM6.out (by omega))
              go_wp2_with fail
              refine C2.out.mono ?_
              rintro e w6 ⟨rfl, hb⟩
              have HL5 := Lib.hid (HL6.out.below hb)
              have HM5 := Lib.hid (HM6.out.below hb)
              have HX5 := Lib.hid (HX6.out.keeps hb)
              have HB5 := Lib.hid (HB6.out.trans (hb.mono HB6.out.size))
              have hB5 : B1 ≤ w6.heap.size := Nat.le_trans hB6 hb.size
              clear hb HL6 HM6 HX6 HB6 hB6 C2 y1
              have HL6 := HL5
              have HM6 := HM5
              have HX6 := HX5
              have HB6 := HB5
              have hB6 := hB5
              clear HL5 HM5 HX5 HB5 hB5
              go_wp2_with fail
              refine wp_region_seq [(0, true), (1, true), (2, true), (3, true), (4, true), (5, true), (6, true), (7, true), (8, true), (9, true), (10, true), (12, true), (13, true), (11, false), (14, false), (15, true), (16, true)] (fun w' => w'.cell? ⟨bx, 1, none⟩ = some (.string s)) (by kernel_rfl) (by kernel_rfl) (HX6.out.drew.cell 1) (fun hHeld1 => ?_)
              simp only [List.map_cons, List.map_nil, List.getElem?_toArray, List.getElem?_cons_zero, List.getElem?_cons_succ]
              repeat (first | (refine seq_skip (by rfl) ?_; try simp only [Act.put, List.setIfInBounds_toArray, List.set_cons_zero, List.set_cons_succ]) | (refine seq_not (by rfl) (by assumption) ?_; try simp only [Act.put, List.setIfInBounds_toArray, List.set_cons_zero, List.set_cons_succ]) | (refine seq_take (v := ?_) (by rfl) ?_ ?_; rotate_left; (focus ((intro w hSw; (try dsimp only at hSw); go_simp; (try with_reducible rfl)); done)); try simp only [Act.put, List.setIfInBounds_toArray, List.set_cons_zero, List.set_cons_succ]))
              refine seq_do (fun K hK => ?_)
              go_simp
              go_at_call 7
              (with_reducible refine Calls.mono (CG.out _) ?_)
              rintro e w7 ⟨rfl, hb⟩
              have HL7 := Lib.hid (HL6.out.drew.below hb)
              have HM7 := Lib.hid (HM6.out.drew.below hb)
              have HX7 := Lib.hid (HX6.out.drew.keeps hb)
              have HB7 := Lib.hid ((below_drew HB6.out).trans (hb.mono HB6.out.size))
              have hB7 : B1 ≤ w7.heap.size := Nat.le_trans hB6 hb.size
              dsimp only
              refine hK.out _ _ (HX7.out.cell 1) (fun hHeld2 => ?_)
              clear hK K hb
              repeat (first | (refine seq_skip (by rfl) ?_; try simp only [Act.put, List.setIfInBounds_toArray, List.set_cons_zero, List.set_cons_succ]) | (refine seq_not (by rfl) (by assumption) ?_; try simp only [Act.put, List.setIfInBounds_toArray, List.set_cons_zero, List.set_cons_succ]) | (refine seq_take (v := ?_) (by rfl) ?_ ?_; rotate_left; (focus ((intro w hSw; (try dsimp only at hSw); go_simp; (try with_reducible rfl)); done)); try simp only [Act.put, List.setIfInBounds_toArray, List.set_cons_zero, List.set_cons_succ]))
              refine seq_do (fun K hK => ?_)
              go_simp
              go_at_call 8
              (with_reducible refine Calls.mono (CR.out _) ?_)
              rintro e w8 ⟨rfl, rfl⟩
              dsimp only
              refine hK.out _ _ (HX7.out.cell 1) (fun hHeld3 => ?_)
              clear hK K
              repeat (first | (refine seq_skip (by rfl) ?_; try simp only [Act.put, List.setIfInBounds_toArray, List.set_cons_zero, List.set_cons_succ]) | (refine seq_not (by rfl) (by assumption) ?_; try simp only [Act.put, List.setIfInBounds_toArray, List.set_cons_zero, List.set_cons_succ]) | (refine seq_take (v := ?_) (by rfl) ?_ ?_; rotate_left; (focus ((intro w hSw; (try dsimp only at hSw); go_simp; (try with_reducible rfl)); done)); try simp only [Act.put, List.setIfInBounds_toArray, List.set_cons_zero, List.set_cons_succ]))
              refine seq_done ?_
              clear hHeld1 hHeld2 hHeld3
              go_wp2
              go_meet
              exact ⟨q, n, m, B1, rfl, by omega, HL7.out, HM7.out, hlm, hpm, hgm, hmB, hB7, hWm, HB7.out⟩
            · have C1 := Lib.hid (show Calls Try.prog 11 #[.pointer (some ⟨l, 0, none⟩), .string s, .int .i64 x2, .agg #[.int .i64 x3, .int .i64 x4, .int .i64 x5, .int .u16 x6, .int .i64 x7]] w2 fun x w' => x = .returned (.tuple #[.int .i64 ((n : Int) + 1), .int .i64 0]) ∧ Lg w' l p g (q ++ [⟨(n : Int) + 1, s, x2, x3, x4, x5, x6, x7⟩]) (n + 1) ∧ Kp (fun k => k = l ∨ k = p ∨ k = g) w2 w' from tag_ok l p g n q s hs2 hlb x2 x3 x4 x5 x6 x7 w2 HL2.out (by omega) hn1)
              go_wp2_with fail
              refine C1.out.mono ?_
              rintro e w5 ⟨rfl, hlg, hkp⟩
              have HL6 := Lib.hid hlg
              have HM6 := Lib.hid (HM2.out.kp hkp (by omega) (by omega))
              have HX6 := Lib.hid (blk_kp HX2.out hkp (by omega))
              have HB6 := Lib.hid (below_kp HB2.out HB2.out.size hkp (fun k hk => by omega))
              have hB6 : B1 ≤ w5.heap.size := Nat.le_trans hBs hkp.size
              have y1 := HX6.out.cell 1
              clear hlg hkp HL2 HM2 HX2 HB2 C1 b0 b1 b2 b3 b4 b5 b6 b7
              have C2 := Lib.hid (rtag_ok B1 m q n s hs2 hlb w5 HM6.out hmB hB6 (by omega) (IntWalk.i64_in _ (by omega)) ⟨(n : Int) + 1, s, x2, x3, x4, x5, x6, x7⟩ rfl rfl)
              go_wp2_with fail
              refine C2.out.mono ?_
              rintro e w6 ⟨rfl, hrl, hkp⟩
              have HL5 := Lib.hid (HL6.out.kp hkp (by omega) (by omega) (by omega))
              have HM5 := Lib.hid (show Rl w6 B1 m (q ++ [⟨(n : Int) + 1, s, x2, x3, x4, x5, x6, x7⟩]) ((n + 1 : Nat) : Int) from hrl)
              have HX5 := Lib.hid (blk_kp HX6.out hkp (by omega))
              have HB5 := Lib.hid (below_kp HB6.out HB6.out.size hkp (fun k hk => by omega))
              have hB5 : B1 ≤ w6.heap.size := Nat.le_trans hB6 hkp.size
              clear hrl hkp HL6 HM6 HX6 HB6 hB6 C2 y1
              have HL6 := HL5
              have HM6 := HM5
              have HX6 := HX5
              have HB6 := HB5
              have hB6 := hB5
              clear HL5 HM5 HX5 HB5 hB5
              go_wp2_with fail
              refine wp_region_seq [(0, true), (1, true), (2, true), (3, true), (4, true), (5, true), (6, true), (7, true), (8, true), (9, true), (10, true), (12, true), (13, true), (11, false), (14, false), (15, true), (16, true)] (fun w' => w'.cell? ⟨bx, 1, none⟩ = some (.string s)) (by kernel_rfl) (by kernel_rfl) (HX6.out.drew.cell 1) (fun hHeld1 => ?_)
              simp only [List.map_cons, List.map_nil, List.getElem?_toArray, List.getElem?_cons_zero, List.getElem?_cons_succ]
              repeat (first | (refine seq_skip (by rfl) ?_; try simp only [Act.put, List.setIfInBounds_toArray, List.set_cons_zero, List.set_cons_succ]) | (refine seq_not (by rfl) (by assumption) ?_; try simp only [Act.put, List.setIfInBounds_toArray, List.set_cons_zero, List.set_cons_succ]) | (refine seq_take (v := ?_) (by rfl) ?_ ?_; rotate_left; (focus ((intro w hSw; (try dsimp only at hSw); go_simp; (try with_reducible rfl)); done)); try simp only [Act.put, List.setIfInBounds_toArray, List.set_cons_zero, List.set_cons_succ]))
              refine seq_do (fun K hK => ?_)
              go_simp
              go_at_call 7
              (with_reducible refine Calls.mono (CG.out _) ?_)
              rintro e w7 ⟨rfl, hb⟩
              have HL7 := Lib.hid (HL6.out.drew.below hb)
              have HM7 := Lib.hid (HM6.out.drew.below hb)
              have HX7 := Lib.hid (HX6.out.drew.keeps hb)
              have HB7 := Lib.hid ((below_drew HB6.out).trans (hb.mono HB6.out.size))
              have hB7 : B1 ≤ w7.heap.size := Nat.le_trans hB6 hb.size
              dsimp only
              refine hK.out _ _ (HX7.out.cell 1) (fun hHeld2 => ?_)
              clear hK K hb
              repeat (first | (refine seq_skip (by rfl) ?_; try simp only [Act.put, List.setIfInBounds_toArray, List.set_cons_zero, List.set_cons_succ]) | (refine seq_not (by rfl) (by assumption) ?_; try simp only [Act.put, List.setIfInBounds_toArray, List.set_cons_zero, List.set_cons_succ]) | (refine seq_take (v := ?_) (by rfl) ?_ ?_; rotate_left; (focus ((intro w hSw; (try dsimp only at hSw); go_simp; (try with_reducible rfl)); done)); try simp only [Act.put, List.setIfInBounds_toArray, List.set_cons_zero, List.set_cons_succ]))
              refine seq_do (fun K hK => ?_)
              go_simp
              go_at_call 8
              (with_reducible refine Calls.mono (CR.out _) ?_)
              rintro e w8 ⟨rfl, rfl⟩
              dsimp only
              refine hK.out _ _ (HX7.out.cell 1) (fun hHeld3 => ?_)
              clear hK K
              repeat (first | (refine seq_skip (by rfl) ?_; try simp only [Act.put, List.setIfInBounds_toArray, List.set_cons_zero, List.set_cons_succ]) | (refine seq_not (by rfl) (by assumption) ?_; try simp only [Act.put, List.setIfInBounds_toArray, List.set_cons_zero, List.set_cons_succ]) | (refine seq_take (v := ?_) (by rfl) ?_ ?_; rotate_left; (focus ((intro w hSw; (try dsimp only at hSw); go_simp; (try with_reducible rfl)); done)); try simp only [Act.put, List.setIfInBounds_toArray, List.set_cons_zero, List.set_cons_succ]))
              refine seq_done ?_
              clear hHeld1 hHeld2 hHeld3
              go_wp2
              go_meet
              exact ⟨_, n + 1, m, B1, rfl, by omega, HL7.out, HM7.out, hlm, hpm, hgm, hmB, hB7, hWm, HB7.out⟩
          · have hlf : Lab s = false := by simpa using hlb
            have CG := Lib.hid (fun w => hlf ▸ good_ok s w hs2)
            have CR := Lib.hid (fun w => hlf ▸ refgood_ok s w hs2)
            have C1 := Lib.hid (tag_bad l s hs2 hlf x2 x3 x4 x5 x6 x7 w2)
            go_wp2_with fail
            refine C1.out.mono ?_
            rintro e w5 ⟨rfl, hb⟩
            have HL6 := Lib.hid (HL2.out.below hb)
            have HM6 := Lib.hid (HM2.out.below hb)
            have HX6 := Lib.hid (HX2.out.keeps hb)
            have HB6 := Lib.hid (HB2.out.trans (hb.mono HB2.out.size))
            have hB6 : B1 ≤ w5.heap.size := Nat.le_trans hBs hb.size
            have y1 := HX6.out.cell 1
            clear hb HL2 HM2 HX2 HB2 C1 b0 b1 b2 b3 b4 b5 b6 b7
            have C2 := Lib.hid (rtag_bad m s hs2 hlf w5)
            go_wp2_with fail
            refine C2.out.mono ?_
            rintro e w6 ⟨rfl, hb⟩
            have HL5 := Lib.hid (HL6.out.below hb)
            have HM5 := Lib.hid (HM6.out.below hb)
            have HX5 := Lib.hid (HX6.out.keeps hb)
            have HB5 := Lib.hid (HB6.out.trans (hb.mono HB6.out.size))
            have hB5 : B1 ≤ w6.heap.size := Nat.le_trans hB6 hb.size
            clear hb HL6 HM6 HX6 HB6 hB6 C2 y1
            have HL6 := HL5
            have HM6 := HM5
            have HX6 := HX5
            have HB6 := HB5
            have hB6 := hB5
            clear HL5 HM5 HX5 HB5 hB5
            go_wp2_with fail
            refine wp_region_seq [(0, true), (1, true), (2, true), (3, true), (4, true), (5, true), (6, true), (7, true), (8, true), (9, true), (10, true), (12, true), (13, true), (11, false), (14, false), (15, true), (16, true)] (fun w' => w'.cell? ⟨bx, 1, none⟩ = some (.string s)) (by kernel_rfl) (by kernel_rfl) (HX6.out.drew.cell 1) (fun hHeld1 => ?_)
            simp only [List.map_cons, List.map_nil, List.getElem?_toArray, List.getElem?_cons_zero, List.getElem?_cons_succ]
            repeat (first | (refine seq_skip (by rfl) ?_; try simp only [Act.put, List.setIfInBounds_toArray, List.set_cons_zero, List.set_cons_succ]) | (refine seq_not (by rfl) (by assumption) ?_; try simp only [Act.put, List.setIfInBounds_toArray, List.set_cons_zero, List.set_cons_succ]) | (refine seq_take (v := ?_) (by rfl) ?_ ?_; rotate_left; (focus ((intro w hSw; (try dsimp only at hSw); go_simp; (try with_reducible rfl)); done)); try simp only [Act.put, List.setIfInBounds_toArray, List.set_cons_zero, List.set_cons_succ]))
            refine seq_do (fun K hK => ?_)
            go_simp
            go_at_call 7
            (with_reducible refine Calls.mono (CG.out _) ?_)
            rintro e w7 ⟨rfl, hb⟩
            have HL7 := Lib.hid (HL6.out.drew.below hb)
            have HM7 := Lib.hid (HM6.out.drew.below hb)
            have HX7 := Lib.hid (HX6.out.drew.keeps hb)
            have HB7 := Lib.hid ((below_drew HB6.out).trans (hb.mono HB6.out.size))
            have hB7 : B1 ≤ w7.heap.size := Nat.le_trans hB6 hb.size
            dsimp only
            refine hK.out _ _ (HX7.out.cell 1) (fun hHeld2 => ?_)
            clear hK K hb
            repeat (first | (refine seq_skip (by rfl) ?_; try simp only [Act.put, List.setIfInBounds_toArray, List.set_cons_zero, List.set_cons_succ]) | (refine seq_not (by rfl) (by assumption) ?_; try simp only [Act.put, List.setIfInBounds_toArray, List.set_cons_zero, List.set_cons_succ]) | (refine seq_take (v := ?_) (by rfl) ?_ ?_; rotate_left; (focus ((intro w hSw; (try dsimp only at hSw); go_simp; (try with_reducible rfl)); done)); try simp only [Act.put, List.setIfInBounds_toArray, List.set_cons_zero, List.set_cons_succ]))
            refine seq_do (fun K hK => ?_)
            go_simp
            go_at_call 8
            (with_reducible refine Calls.mono (CR.out _) ?_)
            rintro e w8 ⟨rfl, rfl⟩
            dsimp only
            refine hK.out _ _ (HX7.out.cell 1) (fun hHeld3 => ?_)
            clear hK K
            repeat (first | (refine seq_skip (by rfl) ?_; try simp only [Act.put, List.setIfInBounds_toArray, List.set_cons_zero, List.set_cons_succ]) | (refine seq_not (by rfl) (by assumption) ?_; try simp only [Act.put, List.setIfInBounds_toArray, List.set_cons_zero, List.set_cons_succ]) | (refine seq_take (v := ?_) (by rfl) ?_ ?_; rotate_left; (focus ((intro w hSw; (try dsimp only at hSw); go_simp; (try with_reducible rfl)); done)); try simp only [Act.put, List.setIfInBounds_toArray, List.set_cons_zero, List.set_cons_succ]))
            refine seq_done ?_
            clear hHeld1 hHeld2 hHeld3
            go_wp2
            go_meet
            exact ⟨q, n, m, B1, rfl, by omega, HL7.out, HM7.out, hlm, hpm, hgm, hmB, hB7, hWm, HB7.out⟩
        by_cases k2 : x0 = 2
        · as_aux_lemma =>
          subst k2
          rcases q with _ | ⟨ev, q⟩
          · have C1 := Lib.hid (take_none l p g n w2 HL2.out)
            go_wp2_with fail
            refine C1.out.mono ?_
            rintro e w5 ⟨rfl, hb⟩
            have HL6 := Lib.hid ((HL2.out.below hb).below ((Below.refl _ _).alloc (Nat.le_refl _) (.cells #[.int .i64 0, .string ByteArray.empty, .int .i64 0, .int .i64 0, .int .i64 0, .int .i64 0, .int .u16 0, .int .i64 0] 37)))
            have HM6 := Lib.hid ((HM2.out.below hb).alloc (.cells #[.int .i64 0, .string ByteArray.empty, .int .i64 0, .int .i64 0, .int .i64 0, .int .i64 0, .int .u16 0, .int .i64 0] 37))
            have HB6 := Lib.hid ((HB2.out.trans (hb.mono HB2.out.size)).alloc (Nat.le_trans HB2.out.size hb.size) (.cells #[.int .i64 0, .string ByteArray.empty, .int .i64 0, .int .i64 0, .int .i64 0, .int .i64 0, .int .u16 0, .int .i64 0] 37))
            have hB6 : B1 ≤ (w5.alloc (.cells #[.int .i64 0, .string ByteArray.empty, .int .i64 0, .int .i64 0, .int .i64 0, .int .i64 0, .int .u16 0, .int .i64 0] 37)).heap.size := by have := hb.size; simp; omega
            have HX := Lib.hid (Blk.new w5 37 #[.int .i64 0, .string ByteArray.empty, .int .i64 0, .int .i64 0, .int .i64 0, .int .i64 0, .int .u16 0, .int .i64 0])
            clear hb HL2 HM2 HX2 HB2 C1 b0 b1 b2 b3 b4 b5 b6 b7
            dsimp only [ev0, Ev.v]
            go_wp2_with fail
            generalize w5.alloc (.cells #[.int .i64 0, .string ByteArray.empty, .int .i64 0, .int .i64 0, .int .i64 0, .int .i64 0, .int .u16 0, .int .i64 0] 37) = w6 at HL6 HM6 HB6 hB6 HX ⊢
            obtain ⟨y0, y1, y2, y3, y4, y5, y6, y7⟩ := reads8 (show Blk w6 w5.heap.size 37 ev0.cs.toArray from HX.out)
            dsimp only [ev0] at y0 y1 y2 y3 y4 y5 y6 y7
            refine (rtake_none B1 m n w6 HM6.out).mono ?_
            rintro e w7 ⟨rfl, rfl⟩
            go_wp2
            go_meet
            exact ⟨[], n, m, B1, rfl, by omega, HL6.out, HM6.out, hlm, hpm, hgm, hmB, hB6, hWm, HB6.out⟩
          · have C1 := Lib.hid (take_ok l p g n ev q w2 HL2.out)
            go_wp2_with fail
            refine C1.out.mono ?_
            rintro e w5 ⟨rfl, hlg, hkp⟩
            have HL6 := Lib.hid (hlg.below ((Below.refl _ _).alloc (Nat.le_refl _) (.cells ev.cs.toArray 37)))
            have HM6 := Lib.hid ((HM2.out.kp hkp (by omega) (by omega)).alloc (.cells ev.cs.toArray 37))
            have HB6 := Lib.hid ((below_kp HB2.out HB2.out.size hkp (fun k hk => by omega)).alloc (Nat.le_trans HB2.out.size hkp.size) (.cells ev.cs.toArray 37))
            have hB6 : B1 ≤ (w5.alloc (.cells ev.cs.toArray 37)).heap.size := by have := hkp.size; simp; omega
            have HX := Lib.hid (Blk.new w5 37 ev.cs.toArray)
            have hz5 : B1 ≤ w5.heap.size := Nat.le_trans hBs hkp.size
            clear hlg hkp HL2 HM2 HX2 HB2 C1 b0 b1 b2 b3 b4 b5 b6 b7
            dsimp only [Ev.v]
            unfold Ev.cs at HL6 HM6 HB6 hB6 HX
            go_wp2_with fail
            generalize w5.alloc (.cells #[.int .i64 ev.id, .string ev.lab, .int .i64 ev.loc, .int .i64 ev.t, .int .i64 ev.h, .int .i64 ev.root, .int .u16 ev.boot, .int .i64 ev.way] 37) = w6 at HL6 HM6 HB6 hB6 HX ⊢
            refine (rtake_ok B1 m ev q n w6 HM6.out hmB).mono ?_
            rintro e w7 ⟨rfl, hrl, hkp⟩
            have HL7 := Lib.hid (HL6.out.kp hkp (by omega) (by omega) (by omega))
            have HM7 := Lib.hid hrl
            have HX7 := Lib.hid (blk_kp HX.out hkp (by omega))
            have HB7 := Lib.hid (below_kp HB6.out HB6.out.size hkp (fun k hk => by omega))
            have hB7 : B1 ≤ w7.heap.size := Nat.le_trans hB6 hkp.size
            obtain ⟨y0, y1, y2, y3, y4, y5, y6, y7⟩ := reads8 (show Blk w7 w5.heap.size 37 ev.cs.toArray from HX7.out)
            clear hrl hkp HL6 HM6 HX HB6 hB6
            go_wp2
            go_meet
            exact ⟨q, n, m, B1, rfl, by omega, HL7.out, HM7.out, hlm, hpm, hgm, hmB, hB7, hWm, HB7.out⟩
        by_cases k3 : x0 = 3
        · as_aux_lemma =>
          subst k3
          go_wp2_with fail
          refine (lclear_ok l p g n q _ HL2.out).mono ?_
          rintro e w5 ⟨rfl, hlg, hkp⟩
          have HL5 := Lib.hid (hlg.below ((Below.refl _ _).alloc (Nat.le_refl _) (.cells #[.slice none 0 0, .slice none 0 0, .int .i64 0] 49)))
          have HM5 := Lib.hid (rl_zero w5)
          have HB5 := Lib.hid ((below_kp HB2.out HB2.out.size hkp (fun k hk => by omega)).alloc (Nat.le_trans HB2.out.size hkp.size) (.cells #[.slice none 0 0, .slice none 0 0, .int .i64 0] 49))
          have hz5 : B1 ≤ w5.heap.size := Nat.le_trans hBs hkp.size
          clear hlg hkp HL2 HM2 HX2 HB2 b0 b1 b2 b3 b4 b5 b6 b7
          go_wp2
          go_meet
          exact ⟨[], 0, w5.heap.size, w5.heap.size + 1, rfl, Nat.zero_le _, HL5.out, HM5.out, by omega, by omega, by omega, by omega, by simp, by omega, HB5.out⟩
        have k0b : (x0 == 0) = false := by simpa using k0
        have k1b : (x0 == 1) = false := by simpa using k1
        have k2b : (x0 == 2) = false := by simpa using k2
        have k3b : (x0 == 3) = false := by simpa using k3
        clear k0 k1 k2 k3
        go_wp2
        go_meet
        exact ⟨q, n, m, B1, rfl, by omega, HL2.out, HM2.out, hlm, hpm, hgm, hmB, hBs, hWm, HB2.out⟩
      case rest =>
        clear HL2 HM2 HX2 HB2 b0 b1 b2 b3 b4 b5 b6 b7 hbx hBs hql hn1 hs2
        obtain ⟨q', n', m', B1', rfl, hn', hlg, hrl, hlm', hpm', hgm', hmB', hB1', hWm', hb⟩ := hcut
        have hql := hlg.ring.len_le
        have hlt2 := hlg.ring.lt
        have HL2 := Lib.hid hlg
        have HM2 := Lib.hid hrl
        have HB2 := Lib.hid hb
        have CS := Lib.hid (same_ok (some ⟨l, 0, none⟩) m' B1' q' n' wc (.inr ⟨l, p, g, n', rfl, hlg, by show ¬ wc.heap.size ≤ p; omega, by show ¬ wc.heap.size ≤ g; omega⟩) hrl (by omega))
        clear hlg hrl hb
        go_wp2_with fail
        refine CS.out.mono ?_
        rintro e w7 ⟨rfl, hb⟩
        have HL7 := Lib.hid (HL2.out.below hb)
        have HM7 := Lib.hid (HM2.out.below hb)
        have HB7 := Lib.hid (HB2.out.trans (hb.mono HB2.out.size))
        have hB7 : B1' ≤ w7.heap.size := Nat.le_trans hB1' hb.size
        clear hb CS HL2 HM2 HB2
        go_wp2
        go_roundw
        case rel => exact ⟨k + 1, by omega, by go_num, q', n', m', B1', rfl, hn', HL7.out, HM7.out, hlm', hpm', hgm', hmB', hB7, hWm', HB7.out⟩
        case measure => simp [intOf]; omega
    · have hke : k = len0 := by omega
      subst hke
      go_wp2
      go_ret
      exact ⟨rfl, HB.out⟩
end Go.Proofs.Ytlaolclepmbdjaa.EventDoesW
