/- Who asks again and again, and gets no reply, gives up within ten rounds, whatever replies to others, or to what wasn't asked, come. No condition. -/
import Derived.Test.YthnnejflgbminabPr4
import Derived.Test.YthnnejflgbminabLf
namespace Go.Proofs.Ythnnejflgbminab.PairGivesUpW
open Go.RowKit Go.Proofs.Ythnnejflgbminab.Bk Go.Proofs.Ythnnejflgbminab.Rw Go.Proofs.Ythnnejflgbminab.Ow Go.Proofs.Ythnnejflgbminab.Kp Go.Proofs.Ythnnejflgbminab.Sq Go.Proofs.Ythnnejflgbminab.Ck Go.Proofs.Ythnnejflgbminab.Tm Go.Proofs.Ythnnejflgbminab.Pr

theorem elem3 {w : World} {A : Option Addr} {len : Nat} {vs : List (List Value)} (h : Lf.RowsAt w [.i .i64, .i .i64, .i .i64, .i .i64, .i .u16, .i .u16, .i .i64, .i .i64, .i .i64, .i .i64, .i .i64, .i .i64, .i .i64, .i .i64] A len vs) {k : Nat} (hk : k < len) :
    ∃ (ad : Addr) (x0 : Int) (x1 : Int) (x2 : Int) (x3 : Int) (x4 : Int) (x5 : Int) (x6 : Int) (x7 : Int) (x8 : Int) (x9 : Int) (x10 : Int) (x11 : Int) (x12 : Int) (x13 : Int), A = some ad ∧ vs[k]? = some [.int .i64 x0, .int .i64 x1, .int .i64 x2, .int .i64 x3, .int .u16 x4, .int .u16 x5, .int .i64 x6, .int .i64 x7, .int .i64 x8, .int .i64 x9, .int .i64 x10, .int .i64 x11, .int .i64 x12, .int .i64 x13] ∧ w.cell? (ad.add (k * 14)) = some (.int .i64 x0) ∧ w.cell? ⟨(ad.add (k * 14)).block, (ad.add (k * 14)).off + 1, none⟩ = some (.int .i64 x1) ∧ w.cell? ⟨(ad.add (k * 14)).block, (ad.add (k * 14)).off + 2, none⟩ = some (.int .i64 x2) ∧ w.cell? ⟨(ad.add (k * 14)).block, (ad.add (k * 14)).off + 3, none⟩ = some (.int .i64 x3) ∧ w.cell? ⟨(ad.add (k * 14)).block, (ad.add (k * 14)).off + 4, none⟩ = some (.int .u16 x4) ∧ w.cell? ⟨(ad.add (k * 14)).block, (ad.add (k * 14)).off + 5, none⟩ = some (.int .u16 x5) ∧ w.cell? ⟨(ad.add (k * 14)).block, (ad.add (k * 14)).off + 6, none⟩ = some (.int .i64 x6) ∧ w.cell? ⟨(ad.add (k * 14)).block, (ad.add (k * 14)).off + 7, none⟩ = some (.int .i64 x7) ∧ w.cell? ⟨(ad.add (k * 14)).block, (ad.add (k * 14)).off + 8, none⟩ = some (.int .i64 x8) ∧ w.cell? ⟨(ad.add (k * 14)).block, (ad.add (k * 14)).off + 9, none⟩ = some (.int .i64 x9) ∧ w.cell? ⟨(ad.add (k * 14)).block, (ad.add (k * 14)).off + 10, none⟩ = some (.int .i64 x10) ∧ w.cell? ⟨(ad.add (k * 14)).block, (ad.add (k * 14)).off + 11, none⟩ = some (.int .i64 x11) ∧ w.cell? ⟨(ad.add (k * 14)).block, (ad.add (k * 14)).off + 12, none⟩ = some (.int .i64 x12) ∧ w.cell? ⟨(ad.add (k * 14)).block, (ad.add (k * 14)).off + 13, none⟩ = some (.int .i64 x13) ∧ (Lit.int .i64 x0).wf = true ∧ (Lit.int .i64 x1).wf = true ∧ (Lit.int .i64 x2).wf = true ∧ (Lit.int .i64 x3).wf = true ∧ (Lit.int .u16 x4).wf = true ∧ (Lit.int .u16 x5).wf = true ∧ (Lit.int .i64 x6).wf = true ∧ (Lit.int .i64 x7).wf = true ∧ (Lit.int .i64 x8).wf = true ∧ (Lit.int .i64 x9).wf = true ∧ (Lit.int .i64 x10).wf = true ∧ (Lit.int .i64 x11).wf = true ∧ (Lit.int .i64 x12).wf = true ∧ (Lit.int .i64 x13).wf = true := by
  obtain ⟨ad, c, rfl, hv, hL, hc0, hcj⟩ := h.elem hk
  obtain ⟨u0, g0, q0, ⟨x0, e0, f0⟩, L0⟩ := hL.cons
  obtain ⟨u1, g1, q1, ⟨x1, e1, f1⟩, L1⟩ := L0.cons
  obtain ⟨u2, g2, q2, ⟨x2, e2, f2⟩, L2⟩ := L1.cons
  obtain ⟨u3, g3, q3, ⟨x3, e3, f3⟩, L3⟩ := L2.cons
  obtain ⟨u4, g4, q4, ⟨x4, e4, f4⟩, L4⟩ := L3.cons
  obtain ⟨u5, g5, q5, ⟨x5, e5, f5⟩, L5⟩ := L4.cons
  obtain ⟨u6, g6, q6, ⟨x6, e6, f6⟩, L6⟩ := L5.cons
  obtain ⟨u7, g7, q7, ⟨x7, e7, f7⟩, L7⟩ := L6.cons
  obtain ⟨u8, g8, q8, ⟨x8, e8, f8⟩, L8⟩ := L7.cons
  obtain ⟨u9, g9, q9, ⟨x9, e9, f9⟩, L9⟩ := L8.cons
  obtain ⟨u10, g10, q10, ⟨x10, e10, f10⟩, L10⟩ := L9.cons
  obtain ⟨u11, g11, q11, ⟨x11, e11, f11⟩, L11⟩ := L10.cons
  obtain ⟨u12, g12, q12, ⟨x12, e12, f12⟩, L12⟩ := L11.cons
  obtain ⟨u13, g13, q13, ⟨x13, e13, f13⟩, L13⟩ := L12.cons
  have n_ := L13.nil
  have hcc : c = [.int .i64 x0, .int .i64 x1, .int .i64 x2, .int .i64 x3, .int .u16 x4, .int .u16 x5, .int .i64 x6, .int .i64 x7, .int .i64 x8, .int .i64 x9, .int .i64 x10, .int .i64 x11, .int .i64 x12, .int .i64 x13] := by rw [q0, e0, q1, e1, q2, e2, q3, e3, q4, e4, q5, e5, q6, e6, q7, e7, q8, e8, q9, e9, q10, e10, q11, e11, q12, e12, q13, e13, n_]
  rw [hcc] at hv hc0 hcj
  exact ⟨ad, x0, x1, x2, x3, x4, x5, x6, x7, x8, x9, x10, x11, x12, x13, rfl, hv, hc0 _ rfl, hcj 0 _ rfl, hcj 1 _ rfl, hcj 2 _ rfl, hcj 3 _ rfl, hcj 4 _ rfl, hcj 5 _ rfl, hcj 6 _ rfl, hcj 7 _ rfl, hcj 8 _ rfl, hcj 9 _ rfl, hcj 10 _ rfl, hcj 11 _ rfl, hcj 12 _ rfl, f0, f1, f2, f3, f4, f5, f6, f7, f8, f9, f10, f11, f12, f13⟩

set_option maxRecDepth 100000 in
set_option maxHeartbeats 1000000 in
theorem early (a0 a1 a2 : Int) (a3 : Option Addr) (len3 cap3 : Nat) (W : World) (h : a0 < 0 ∨ 63 < a0 ∨ a1 < 0 ∨ 63 < a1 ∨ a1 = a0 ∨ a2 < 0 ∨ 1099511627776 < a2 ∨ (20 : Int) < len3) :
    Calls Try.prog 5 #[.int .i64 a0, .int .i64 a1, .int .i64 a2, .slice a3 len3 cap3] W fun e w' => e = .returned (.bool true) ∧ Below W.heap.size W w' := by
  by_cases hm : a0 < 0 ∨ 63 < a0
  · have N0 := Lib.hid (fun w => new_no a0 w hm)
    clear h hm
    go_enter Try.func5, Try.ntmps5
    go_wp2_with (first
      | (go_at_call 8; (with_reducible refine Calls.mono (alive_ok _) ?_); rintro e w1 ⟨rfl, hb⟩; have HB := Lib.hid hb; clear hb)
      | (go_at_call 15; (with_reducible refine Calls.mono (N0.out _) ?_); rintro e w2 ⟨rfl, rfl⟩))
    go_ret
    exact ⟨rfl, HB.out⟩
  have m0 : 0 ≤ a0 := by omega
  have m1 : a0 ≤ 63 := by omega
  clear hm
  by_cases h0 : a1 < 0
  · clear h
    go_enter Try.func5, Try.ntmps5
    go_wp2_with (first
      | (go_at_call 8; (with_reducible refine Calls.mono (alive_ok _) ?_); rintro e w1 ⟨rfl, hb⟩; have HB := Lib.hid (fun o => hb.alloc hb.size o); clear hb)
      | (go_at_call 15; (with_reducible refine Calls.mono (new_ok a0 _ m0 m1) ?_); rintro e w2 ⟨rfl, rfl⟩))
    go_ret
    exact ⟨rfl, HB.out _⟩
  by_cases h1 : 63 < a1
  · clear h
    go_enter Try.func5, Try.ntmps5
    go_wp2_with (first
      | (go_at_call 8; (with_reducible refine Calls.mono (alive_ok _) ?_); rintro e w1 ⟨rfl, hb⟩; have HB := Lib.hid (fun o => hb.alloc hb.size o); clear hb)
      | (go_at_call 15; (with_reducible refine Calls.mono (new_ok a0 _ m0 m1) ?_); rintro e w2 ⟨rfl, rfl⟩))
    go_ret
    exact ⟨rfl, HB.out _⟩
  by_cases h2 : (a1 == a0) = true
  · clear h
    go_enter Try.func5, Try.ntmps5
    go_wp2_with (first
      | (go_at_call 8; (with_reducible refine Calls.mono (alive_ok _) ?_); rintro e w1 ⟨rfl, hb⟩; have HB := Lib.hid (fun o => hb.alloc hb.size o); clear hb)
      | (go_at_call 15; (with_reducible refine Calls.mono (new_ok a0 _ m0 m1) ?_); rintro e w2 ⟨rfl, rfl⟩))
    go_ret
    exact ⟨rfl, HB.out _⟩
  have h2b : ¬ a1 = a0 := by simpa using h2
  have h2c : (a1 == a0) = false := by simpa using h2
  clear h2
  by_cases h3 : a2 < 0
  · clear h
    go_enter Try.func5, Try.ntmps5
    go_wp2_with (first
      | (go_at_call 8; (with_reducible refine Calls.mono (alive_ok _) ?_); rintro e w1 ⟨rfl, hb⟩; have HB := Lib.hid (fun o => hb.alloc hb.size o); clear hb)
      | (go_at_call 15; (with_reducible refine Calls.mono (new_ok a0 _ m0 m1) ?_); rintro e w2 ⟨rfl, rfl⟩))
    go_ret
    exact ⟨rfl, HB.out _⟩
  by_cases h4 : 1099511627776 < a2
  · clear h
    go_enter Try.func5, Try.ntmps5
    go_wp2_with (first
      | (go_at_call 8; (with_reducible refine Calls.mono (alive_ok _) ?_); rintro e w1 ⟨rfl, hb⟩; have HB := Lib.hid (fun o => hb.alloc hb.size o); clear hb)
      | (go_at_call 15; (with_reducible refine Calls.mono (new_ok a0 _ m0 m1) ?_); rintro e w2 ⟨rfl, rfl⟩))
    go_ret
    exact ⟨rfl, HB.out _⟩
  have h99 : (20 : Int) < len3 := by omega
  clear h
  go_enter Try.func5, Try.ntmps5
  go_wp2_with (first
    | (go_at_call 8; (with_reducible refine Calls.mono (alive_ok _) ?_); rintro e w1 ⟨rfl, hb⟩; have HB := Lib.hid (fun o => hb.alloc hb.size o); clear hb)
    | (go_at_call 15; (with_reducible refine Calls.mono (new_ok a0 _ m0 m1) ?_); rintro e w2 ⟨rfl, rfl⟩))
  go_ret
  exact ⟨rfl, HB.out _⟩

set_option maxRecDepth 100000 in
set_option maxHeartbeats 4000000 in
set_option linter.unusedVariables false in
theorem walk (a0 : Int) (a1 : Int) (a2 : Int) (a3 : Option Addr) (len3 cap3 : Nat) (z3 : List (List Value)) (W : World) (w0 : (Lit.int .i64 a0).wf = true) (w1 : (Lit.int .i64 a1).wf = true) (w2 : (Lit.int .i64 a2).wf = true) (l3 : len3 ≤ cap3) (m3 : cap3 ≤ maxLen) (w3 : Lf.RowsAt W [.i .i64, .i .i64, .i .i64, .i .i64, .i .u16, .i .u16, .i .i64, .i .i64, .i .i64, .i .i64, .i .i64, .i .i64, .i .i64, .i .i64] a3 len3 z3) :
    Calls Try.prog 5 #[.int .i64 a0, .int .i64 a1, .int .i64 a2, .slice a3 len3 cap3] W fun e w' => e = .returned (.bool true) ∧ Below W.heap.size W w' := by
  have hl8 : len3 ≤ 9223372036854775807 := by unfold maxLen at m3; omega
  have R := Lib.hid w3
  clear w0 w1 w2 w3 m3
  by_cases hin : a0 < 0 ∨ 63 < a0 ∨ a1 < 0 ∨ 63 < a1 ∨ a1 = a0 ∨ a2 < 0 ∨ 1099511627776 < a2 ∨ (20 : Int) < len3
  · exact early a0 a1 a2 a3 len3 cap3 W hin
  have n0 : ¬ (a0 < 0) := fun h => hin (by omega)
  have n1 : ¬ (63 < a0) := fun h => hin (by omega)
  have n2 : ¬ (a1 < 0) := fun h => hin (by omega)
  have n3 : ¬ (63 < a1) := fun h => hin (by omega)
  have n4 : ¬ (a1 = a0) := fun h => hin (by omega)
  have n5 : ¬ (a2 < 0) := fun h => hin (by omega)
  have n6 : ¬ (1099511627776 < a2) := fun h => hin (by omega)
  have n7 : ¬ ((20 : Int) < len3) := fun h => hin (by omega)
  clear hin
  have e1 : (a1 == a0) = false := by simpa using n4
  have m0 : 0 ≤ a0 := by omega
  have m1 : a0 ≤ 63 := by omega
  have HPU := Lib.hid (fun j (h0 : 0 ≤ j) (h1 : j ≤ 9) => show okPulse a0 a1 (a2 + j) = true from (okPulse_iff _ _ _).2 (by omega))
  go_enter Try.func5, Try.ntmps5
  go_wp2_with fail
  refine (alive_ok _).mono ?_
  rintro e w1 ⟨rfl, hb⟩
  have HB1 := Lib.hid hb
  clear hb
  go_wp2_with fail
  refine (new_ok a0 _ m0 m1).mono ?_
  rintro e w2 ⟨rfl, rfl⟩
  have hp : Pd (w1.alloc (.cells (st0.cs a0) 68)) w1.heap.size a0 st0 := Blk.new _ _ _
  have hb := HB1.out.alloc HB1.out.size (.cells (st0.cs a0) 68)
  have hz := HB1.out.size
  generalize w1.alloc (.cells (st0.cs a0) 68) = w2 at hp hb ⊢
  generalize w1.heap.size = p at hp hz ⊢
  have HP := Lib.hid hp
  have HB := Lib.hid hb
  clear hp hb HB1
  go_wp2_with fail
  go_loopw [11] (fun i wr => ∃ k : Nat, k < 10 ∧ i = .int .i64 k ∧ Pd wr p a0 (gu a1 a2 k) ∧ Below W.heap.size W wr) (fun i _ => 10 - (intOf i).toNat)
  case atStart => exact ⟨0, by omega, rfl, HP.out, HB.out⟩
  case round =>
    clear HP HB
    obtain ⟨k, hk, rfl, hp, hb⟩ := hrel
    have HP := Lib.hid hp
    have HB := Lib.hid hb
    clear hp hb
    by_cases hy : k = 0 ∨ k = 3 ∨ k = 8
    · have hgy := gu_yes a0 a1 a2 k hk hy e1 HPU.out
      obtain ⟨g1, g2, g3, g4, g5⟩ := hgy
      have h9 : k ≠ 9 := by omega
      have C1 := Lib.hid (fun w h => ask_ok p a0 (gu a1 a2 k) a1 (a2 + k) w h g1)
      obtain ⟨m, hm⟩ : ∃ m, asked (gu a1 a2 k) a1 (a2 + k) = m := ⟨_, rfl⟩
      obtain ⟨g', hg'⟩ : ∃ g', gu a1 a2 (k + 1) = g' := ⟨_, rfl⟩
      rw [hm] at C1 g2 g3 g4 g5
      rw [hg'] at g2
      have C5 := Lib.hid (fun w h => show Calls Try.prog 19 #[.pointer (some ⟨p, 0, none⟩)] w fun e w' => e = .returned (.bool false) ∧ Pd w' p a0 g' ∧ Kp (fun k => k = p) w w' from by have := beat_ok p a0 m w h g3; rw [g2] at this; exact this)
      have HG4 := Lib.hid g4
      have HG5 := Lib.hid g5
      have HGP := Lib.hid hg'
      clear g1 g2 g3 g4 g5 hm hy hg'
      go_wp2_with fail
      refine (C1.out _ HP.out).mono ?_
      rintro e w3 ⟨rfl, hp, hk2⟩
      have HP3 := Lib.hid (hp.alloc (.cells #[.int .i64 a0, .int .i64 a1, .int .i64 (a2 + k)] 36))
      have HB3 := Lib.hid ((below_kp HB.out HB.out.size hk2 (fun k hk => by omega)).alloc (Nat.le_trans HB.out.size hk2.size) (.cells #[.int .i64 a0, .int .i64 a1, .int .i64 (a2 + k)] 36))
      clear hp hk2 HP HB
      go_wp2
      generalize w3.alloc (.cells #[.int .i64 a0, .int .i64 a1, .int .i64 (a2 + k)] 36) = w4 at HP3 HB3 ⊢
      go_loopw [77] (fun i wr => ∃ j : Nat, j ≤ len3 ∧ i = .int .i64 j ∧ Pd wr p a0 m ∧ Below W.heap.size W wr) (fun i _ => len3 - (intOf i).toNat)
      case atStart => exact ⟨0, by omega, rfl, HP3.out, HB3.out⟩
      case round =>
        clear HP3 HB3
        obtain ⟨j, hj, rfl, hp, hb⟩ := hrel
        have HP := Lib.hid hp
        have HB := Lib.hid hb
        clear hp hb
        by_cases hlt : j < len3
        · obtain ⟨ad, x0, x1, x2, x3, x4, x5, x6, x7, x8, x9, x10, x11, x12, x13, rfl, _, e0, e1, e2, e3, e4, e5, e6, e7, e8, e9, e10, e11, e12, e13, wx0, wx1, wx2, wx3, wx4, wx5, wx6, wx7, wx8, wx9, wx10, wx11, wx12, wx13⟩ := elem3 (R.out.below HB.out) hlt
          have hx6 := bounds_i64 wx6
          have HX6 := Lib.hid (show -9223372036854775808 ≤ x6 ∧ x6 ≤ 9223372036854775807 by omega)
          clear wx0 wx1 wx2 wx3 wx4 wx5 wx6 wx7 wx8 wx9 wx10 wx11 wx12 wx13 hx6
          have HPB := Lib.hid (fun o => HP.out.alloc o)
          have HBB := Lib.hid (fun o => HB.out.alloc HB.out.size o)
          by_cases c2 : x2 = a0
          · have c2b : (x2 == a0) = true := by simpa using c2
            by_cases c1 : x1 = a1
            · have c1b : (x1 == a1) = true := by simpa using c1
              have HH := Lib.hid (show hearOk a0 m x1 x2 (-1) x10 x11 x6 (a2 + k) = false by
                have h5 := HG5.out
                have : ((-1 : Int) == m.sent) = false := by simp; omega
                simp [hearOk, this])
              clear c1 c2
              have CR := Lib.hid (fun w => reply_ok x0 x1 x2 x3 x4 x5 x6 x7 x8 (-1) x10 x11 x12 x13 w)
              have CH := Lib.hid (fun w h => hear_no p a0 m x1 x2 (-1) x10 x11 x3 x4 x6 (a2 + k) w h HH.out HX6.out.1 HX6.out.2)
              go_wp2_with fail
              refine (CR.out _).mono ?_
              rintro e w7 ⟨rfl, hb⟩
              have HP7 := Lib.hid ((HPB.out _).keeps hb)
              have HB7 := Lib.hid ((HBB.out _).trans (hb.mono (HBB.out _).size))
              clear hb e0 e1 e2 e3 e4 e5 e6 e7 e8 e9 e10 e11 e12 e13
              go_wp2_with fail
              refine (CH.out _ HP7.out).mono ?_
              rintro e w8 ⟨rfl, hb⟩
              have HP8 := Lib.hid ((HP7.out.keeps hb).alloc (.cells #[.int .i64 0, .int .i64 0, .int .i64 0] 43))
              have HB8 := Lib.hid ((HB7.out.trans (hb.mono HB7.out.size)).alloc (Nat.le_trans HB7.out.size hb.size) (.cells #[.int .i64 0, .int .i64 0, .int .i64 0] 43))
              clear hb HP7 HB7 HPB HBB
              go_wp2
              go_roundw
              case rel => exact ⟨j + 1, hlt, by go_num, HP8.out, HB8.out⟩
              case measure => simp [intOf]; omega
            · have c1b : (x1 == a1) = false := by simpa using c1
              have HH := Lib.hid (show hearOk a0 m x1 x2 x9 x10 x11 x6 (a2 + k) = false by
                have h5 := HG4.out
                have : (x1 == m.to) = false := by rw [h5]; exact c1b
                simp [hearOk, this])
              clear c1 c2
              have CR := Lib.hid (fun w => reply_ok x0 x1 x2 x3 x4 x5 x6 x7 x8 (x9) x10 x11 x12 x13 w)
              have CH := Lib.hid (fun w h => hear_no p a0 m x1 x2 (x9) x10 x11 x3 x4 x6 (a2 + k) w h HH.out HX6.out.1 HX6.out.2)
              go_wp2_with fail
              refine (CR.out _).mono ?_
              rintro e w7 ⟨rfl, hb⟩
              have HP7 := Lib.hid ((HPB.out _).keeps hb)
              have HB7 := Lib.hid ((HBB.out _).trans (hb.mono (HBB.out _).size))
              clear hb e0 e1 e2 e3 e4 e5 e6 e7 e8 e9 e10 e11 e12 e13
              go_wp2_with fail
              refine (CH.out _ HP7.out).mono ?_
              rintro e w8 ⟨rfl, hb⟩
              have HP8 := Lib.hid ((HP7.out.keeps hb).alloc (.cells #[.int .i64 0, .int .i64 0, .int .i64 0] 43))
              have HB8 := Lib.hid ((HB7.out.trans (hb.mono HB7.out.size)).alloc (Nat.le_trans HB7.out.size hb.size) (.cells #[.int .i64 0, .int .i64 0, .int .i64 0] 43))
              clear hb HP7 HB7 HPB HBB
              go_wp2
              go_roundw
              case rel => exact ⟨j + 1, hlt, by go_num, HP8.out, HB8.out⟩
              case measure => simp [intOf]; omega
          · have c2b : (x2 == a0) = false := by simpa using c2
            have HH := Lib.hid (show hearOk a0 m x1 x2 x9 x10 x11 x6 (a2 + k) = false by simp [hearOk, c2b])
            clear c2
            have CR := Lib.hid (fun w => reply_ok x0 x1 x2 x3 x4 x5 x6 x7 x8 (x9) x10 x11 x12 x13 w)
            have CH := Lib.hid (fun w h => hear_no p a0 m x1 x2 (x9) x10 x11 x3 x4 x6 (a2 + k) w h HH.out HX6.out.1 HX6.out.2)
            go_wp2_with fail
            refine (CR.out _).mono ?_
            rintro e w7 ⟨rfl, hb⟩
            have HP7 := Lib.hid ((HPB.out _).keeps hb)
            have HB7 := Lib.hid ((HBB.out _).trans (hb.mono (HBB.out _).size))
            clear hb e0 e1 e2 e3 e4 e5 e6 e7 e8 e9 e10 e11 e12 e13
            go_wp2_with fail
            refine (CH.out _ HP7.out).mono ?_
            rintro e w8 ⟨rfl, hb⟩
            have HP8 := Lib.hid ((HP7.out.keeps hb).alloc (.cells #[.int .i64 0, .int .i64 0, .int .i64 0] 43))
            have HB8 := Lib.hid ((HB7.out.trans (hb.mono HB7.out.size)).alloc (Nat.le_trans HB7.out.size hb.size) (.cells #[.int .i64 0, .int .i64 0, .int .i64 0] 43))
            clear hb HP7 HB7 HPB HBB
            go_wp2
            go_roundw
            case rel => exact ⟨j + 1, hlt, by go_num, HP8.out, HB8.out⟩
            case measure => simp [intOf]; omega
        · go_wp2_with fail
          refine (C5.out _ HP.out).mono ?_
          rintro e w6 ⟨rfl, hp, hk2⟩
          have HP6 := Lib.hid hp
          have HB6 := Lib.hid (below_kp HB.out HB.out.size hk2 (fun k hk => by omega))
          clear hp hk2 HP HB
          go_wp2
          go_roundw
          case rel => exact ⟨k + 1, by omega, by go_num, HGP.out ▸ HP6.out, HB6.out⟩
          case measure => simp [intOf]; omega
    · have hgn := gu_no a0 a1 a2 k hk hy
      obtain ⟨g1, g2, g3, g4, g5⟩ := hgn
      have C1 := Lib.hid (fun w h => ask_no p a0 (gu a1 a2 k) a1 (a2 + k) w h g1)
      obtain ⟨m, hm⟩ : ∃ m, gu a1 a2 k = m := ⟨_, rfl⟩
      obtain ⟨g', hg'⟩ : ∃ g', gu a1 a2 (k + 1) = g' := ⟨_, rfl⟩
      rw [hm] at C1 g2 g3 g4 g5 HP
      rw [hg'] at g2
      have C5 := Lib.hid (fun w h => show Calls Try.prog 19 #[.pointer (some ⟨p, 0, none⟩)] w fun e w' => e = .returned (.bool (decide (k = 9))) ∧ Pd w' p a0 g' ∧ Kp (fun k => k = p) w w' from by have := beat_ok p a0 m w h g3; rw [g2] at this; exact this)
      have HG4 := Lib.hid g4
      have HG5 := Lib.hid g5
      have HGP := Lib.hid hg'
      clear g1 g2 g3 g4 g5 hm hy hg'
      go_wp2_with fail
      refine (C1.out _ HP.out).mono ?_
      rintro e w3 ⟨rfl, hb⟩
      have HP3 := Lib.hid ((HP.out.keeps hb).alloc (.cells #[.int .i64 0, .int .i64 0, .int .i64 0] 36))
      have HB3 := Lib.hid ((HB.out.trans (hb.mono HB.out.size)).alloc (Nat.le_trans HB.out.size hb.size) (.cells #[.int .i64 0, .int .i64 0, .int .i64 0] 36))
      clear hb HP HB
      go_wp2
      generalize w3.alloc (.cells #[.int .i64 0, .int .i64 0, .int .i64 0] 36) = w4 at HP3 HB3 ⊢
      go_loopw [77] (fun i wr => ∃ j : Nat, j ≤ len3 ∧ i = .int .i64 j ∧ Pd wr p a0 m ∧ Below W.heap.size W wr) (fun i _ => len3 - (intOf i).toNat)
      case atStart => exact ⟨0, by omega, rfl, HP3.out, HB3.out⟩
      case round =>
        clear HP3 HB3
        obtain ⟨j, hj, rfl, hp, hb⟩ := hrel
        have HP := Lib.hid hp
        have HB := Lib.hid hb
        clear hp hb
        by_cases hlt : j < len3
        · obtain ⟨ad, x0, x1, x2, x3, x4, x5, x6, x7, x8, x9, x10, x11, x12, x13, rfl, _, e0, e1, e2, e3, e4, e5, e6, e7, e8, e9, e10, e11, e12, e13, wx0, wx1, wx2, wx3, wx4, wx5, wx6, wx7, wx8, wx9, wx10, wx11, wx12, wx13⟩ := elem3 (R.out.below HB.out) hlt
          have hx6 := bounds_i64 wx6
          have HX6 := Lib.hid (show -9223372036854775808 ≤ x6 ∧ x6 ≤ 9223372036854775807 by omega)
          clear wx0 wx1 wx2 wx3 wx4 wx5 wx6 wx7 wx8 wx9 wx10 wx11 wx12 wx13 hx6
          have HPB := Lib.hid (fun o => HP.out.alloc o)
          have HBB := Lib.hid (fun o => HB.out.alloc HB.out.size o)
          by_cases c2 : x2 = a0
          · have c2b : (x2 == a0) = true := by simpa using c2
            by_cases c1 : x1 = a1
            · have c1b : (x1 == a1) = true := by simpa using c1
              have HH := Lib.hid (show hearOk a0 m x1 x2 (-1) x10 x11 x6 (a2 + k) = false by
                have h5 := HG5.out
                have : ((-1 : Int) == m.sent) = false := by simp; omega
                simp [hearOk, this])
              clear c1 c2
              have CR := Lib.hid (fun w => reply_ok x0 x1 x2 x3 x4 x5 x6 x7 x8 (-1) x10 x11 x12 x13 w)
              have CH := Lib.hid (fun w h => hear_no p a0 m x1 x2 (-1) x10 x11 x3 x4 x6 (a2 + k) w h HH.out HX6.out.1 HX6.out.2)
              go_wp2_with fail
              refine (CR.out _).mono ?_
              rintro e w7 ⟨rfl, hb⟩
              have HP7 := Lib.hid ((HPB.out _).keeps hb)
              have HB7 := Lib.hid ((HBB.out _).trans (hb.mono (HBB.out _).size))
              clear hb e0 e1 e2 e3 e4 e5 e6 e7 e8 e9 e10 e11 e12 e13
              go_wp2_with fail
              refine (CH.out _ HP7.out).mono ?_
              rintro e w8 ⟨rfl, hb⟩
              have HP8 := Lib.hid ((HP7.out.keeps hb).alloc (.cells #[.int .i64 0, .int .i64 0, .int .i64 0] 43))
              have HB8 := Lib.hid ((HB7.out.trans (hb.mono HB7.out.size)).alloc (Nat.le_trans HB7.out.size hb.size) (.cells #[.int .i64 0, .int .i64 0, .int .i64 0] 43))
              clear hb HP7 HB7 HPB HBB
              go_wp2
              go_roundw
              case rel => exact ⟨j + 1, hlt, by go_num, HP8.out, HB8.out⟩
              case measure => simp [intOf]; omega
            · have c1b : (x1 == a1) = false := by simpa using c1
              have HH := Lib.hid (show hearOk a0 m x1 x2 x9 x10 x11 x6 (a2 + k) = false by
                have h5 := HG4.out
                have : (x1 == m.to) = false := by rw [h5]; exact c1b
                simp [hearOk, this])
              clear c1 c2
              have CR := Lib.hid (fun w => reply_ok x0 x1 x2 x3 x4 x5 x6 x7 x8 (x9) x10 x11 x12 x13 w)
              have CH := Lib.hid (fun w h => hear_no p a0 m x1 x2 (x9) x10 x11 x3 x4 x6 (a2 + k) w h HH.out HX6.out.1 HX6.out.2)
              go_wp2_with fail
              refine (CR.out _).mono ?_
              rintro e w7 ⟨rfl, hb⟩
              have HP7 := Lib.hid ((HPB.out _).keeps hb)
              have HB7 := Lib.hid ((HBB.out _).trans (hb.mono (HBB.out _).size))
              clear hb e0 e1 e2 e3 e4 e5 e6 e7 e8 e9 e10 e11 e12 e13
              go_wp2_with fail
              refine (CH.out _ HP7.out).mono ?_
              rintro e w8 ⟨rfl, hb⟩
              have HP8 := Lib.hid ((HP7.out.keeps hb).alloc (.cells #[.int .i64 0, .int .i64 0, .int .i64 0] 43))
              have HB8 := Lib.hid ((HB7.out.trans (hb.mono HB7.out.size)).alloc (Nat.le_trans HB7.out.size hb.size) (.cells #[.int .i64 0, .int .i64 0, .int .i64 0] 43))
              clear hb HP7 HB7 HPB HBB
              go_wp2
              go_roundw
              case rel => exact ⟨j + 1, hlt, by go_num, HP8.out, HB8.out⟩
              case measure => simp [intOf]; omega
          · have c2b : (x2 == a0) = false := by simpa using c2
            have HH := Lib.hid (show hearOk a0 m x1 x2 x9 x10 x11 x6 (a2 + k) = false by simp [hearOk, c2b])
            clear c2
            have CR := Lib.hid (fun w => reply_ok x0 x1 x2 x3 x4 x5 x6 x7 x8 (x9) x10 x11 x12 x13 w)
            have CH := Lib.hid (fun w h => hear_no p a0 m x1 x2 (x9) x10 x11 x3 x4 x6 (a2 + k) w h HH.out HX6.out.1 HX6.out.2)
            go_wp2_with fail
            refine (CR.out _).mono ?_
            rintro e w7 ⟨rfl, hb⟩
            have HP7 := Lib.hid ((HPB.out _).keeps hb)
            have HB7 := Lib.hid ((HBB.out _).trans (hb.mono (HBB.out _).size))
            clear hb e0 e1 e2 e3 e4 e5 e6 e7 e8 e9 e10 e11 e12 e13
            go_wp2_with fail
            refine (CH.out _ HP7.out).mono ?_
            rintro e w8 ⟨rfl, hb⟩
            have HP8 := Lib.hid ((HP7.out.keeps hb).alloc (.cells #[.int .i64 0, .int .i64 0, .int .i64 0] 43))
            have HB8 := Lib.hid ((HB7.out.trans (hb.mono HB7.out.size)).alloc (Nat.le_trans HB7.out.size hb.size) (.cells #[.int .i64 0, .int .i64 0, .int .i64 0] 43))
            clear hb HP7 HB7 HPB HBB
            go_wp2
            go_roundw
            case rel => exact ⟨j + 1, hlt, by go_num, HP8.out, HB8.out⟩
            case measure => simp [intOf]; omega
        · go_wp2_with fail
          refine (C5.out _ HP.out).mono ?_
          rintro e w6 ⟨rfl, hp, hk2⟩
          have HP6 := Lib.hid hp
          have HB6 := Lib.hid (below_kp HB.out HB.out.size hk2 (fun k hk => by omega))
          clear hp hk2 HP HB
          by_cases h9 : k = 9
          · subst h9
            go_wp2_with (first
              | (go_at_call 20; (with_reducible refine Calls.mono (waits_ok p a0 _ _ (HGP.out ▸ HP6.out)) ?_); rintro e w8 ⟨rfl, rfl⟩)
              | (go_at_call 21; (with_reducible refine Calls.mono (rests_ok p a0 _ _ (HGP.out ▸ HP6.out)) ?_); rintro e w8 ⟨rfl, rfl⟩))
            go_ret
            exact ⟨rfl, HB6.out⟩
          · have h9d : decide (k = 9) = false := decide_eq_false h9
            go_wp2
            go_roundw
            case rel => exact ⟨k + 1, by omega, by go_num, HGP.out ▸ HP6.out, HB6.out⟩
            case measure => simp [intOf]; omega
end Go.Proofs.Ythnnejflgbminab.PairGivesUpW
