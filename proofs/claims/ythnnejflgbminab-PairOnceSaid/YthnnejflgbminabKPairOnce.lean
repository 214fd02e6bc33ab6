/- A reply is taken once, and none to a pulse that was given up, or to an earlier one. No condition. -/
import Derived.Test.YthnnejflgbminabPr3
import Derived.Test.YthnnejflgbminabLf
namespace Go.Proofs.Ythnnejflgbminab.PairOnceW
open Go.RowKit Go.Proofs.Ythnnejflgbminab.Bk Go.Proofs.Ythnnejflgbminab.Rw Go.Proofs.Ythnnejflgbminab.Ow Go.Proofs.Ythnnejflgbminab.Kp Go.Proofs.Ythnnejflgbminab.Sq Go.Proofs.Ythnnejflgbminab.Ck Go.Proofs.Ythnnejflgbminab.Tm Go.Proofs.Ythnnejflgbminab.Pr

theorem cells8 {w : World} {g : Nat} {t : TypeId} {x0 x1 x2 x3 x4 x5 x6 x7 : Value} (h : Blk w g t #[x0, x1, x2, x3, x4, x5, x6, x7]) : w.cell? ⟨g, 0, none⟩ = some x0 ∧ w.cell? ⟨g, 1, none⟩ = some x1 ∧ w.cell? ⟨g, 2, none⟩ = some x2 ∧ w.cell? ⟨g, 3, none⟩ = some x3 ∧ w.cell? ⟨g, 4, none⟩ = some x4 ∧ w.cell? ⟨g, 5, none⟩ = some x5 ∧ w.cell? ⟨g, 6, none⟩ = some x6 ∧ w.cell? ⟨g, 7, none⟩ = some x7 :=
  ⟨h.cell 0, h.cell 1, h.cell 2, h.cell 3, h.cell 4, h.cell 5, h.cell 6, h.cell 7⟩

set_option maxRecDepth 100000 in
set_option maxHeartbeats 1000000 in
theorem early (a0 a1 a2 a3 a4 a5 : Int) (W : World) (h : a0 < 0 ∨ 63 < a0 ∨ a1 < 0 ∨ 63 < a1 ∨ a1 = a0 ∨ a2 < 0 ∨ 1099511627776 < a2 ∨ a3 < 1 ∨ 1073741824 < a3 ∨ a4 < 0 ∨ 1099511627776 < a4 ∨ a5 < 0 ∨ 1073741824 < a5) :
    Calls Try.prog 6 #[.int .i64 a0, .int .i64 a1, .int .i64 a2, .int .i64 a3, .int .i64 a4, .int .i64 a5] W fun e w' => e = .returned (.bool true) ∧ Below W.heap.size W w' := by
  by_cases hm : a0 < 0 ∨ 63 < a0
  · have N0 := Lib.hid (fun w => new_no a0 w hm)
    clear h hm
    go_enter Try.func6, Try.ntmps6
    go_wp2_with (first
      | (go_at_call 8; (with_reducible refine Calls.mono (alive_ok _) ?_); rintro e w1 ⟨rfl, hb⟩; have HB := Lib.hid hb; clear hb)
      | (go_at_call 15; (with_reducible refine Calls.mono (N0.out _) ?_); rintro e w2 ⟨rfl, rfl⟩))
    go_ret
    exact ⟨rfl, HB.out⟩
  have m0 : 0 ≤ a0 := by omega
  have m1 : a0 ≤ 63 := by omega
  clear hm
  by_cases h0 : a1 < 0
  · clear h
    go_enter Try.func6, Try.ntmps6
    go_wp2_with (first
      | (go_at_call 8; (with_reducible refine Calls.mono (alive_ok _) ?_); rintro e w1 ⟨rfl, hb⟩; have HB := Lib.hid (fun o => hb.alloc hb.size o); clear hb)
      | (go_at_call 15; (with_reducible refine Calls.mono (new_ok a0 _ m0 m1) ?_); rintro e w2 ⟨rfl, rfl⟩))
    go_ret
    exact ⟨rfl, HB.out _⟩
  by_cases h1 : 63 < a1
  · clear h
    go_enter Try.func6, Try.ntmps6
    go_wp2_with (first
      | (go_at_call 8; (with_reducible refine Calls.mono (alive_ok _) ?_); rintro e w1 ⟨rfl, hb⟩; have HB := Lib.hid (fun o => hb.alloc hb.size o); clear hb)
      | (go_at_call 15; (with_reducible refine Calls.mono (new_ok a0 _ m0 m1) ?_); rintro e w2 ⟨rfl, rfl⟩))
    go_ret
    exact ⟨rfl, HB.out _⟩
  by_cases h2 : (a1 == a0) = true
  · clear h
    go_enter Try.func6, Try.ntmps6
    go_wp2_with (first
      | (go_at_call 8; (with_reducible refine Calls.mono (alive_ok _) ?_); rintro e w1 ⟨rfl, hb⟩; have HB := Lib.hid (fun o => hb.alloc hb.size o); clear hb)
      | (go_at_call 15; (with_reducible refine Calls.mono (new_ok a0 _ m0 m1) ?_); rintro e w2 ⟨rfl, rfl⟩))
    go_ret
    exact ⟨rfl, HB.out _⟩
  have h2b : ¬ a1 = a0 := by simpa using h2
  have h2c : (a1 == a0) = false := by simpa using h2
  clear h2
  by_cases h3 : a2 < 0
  · clear h
    go_enter Try.func6, Try.ntmps6
    go_wp2_with (first
      | (go_at_call 8; (with_reducible refine Calls.mono (alive_ok _) ?_); rintro e w1 ⟨rfl, hb⟩; have HB := Lib.hid (fun o => hb.alloc hb.size o); clear hb)
      | (go_at_call 15; (with_reducible refine Calls.mono (new_ok a0 _ m0 m1) ?_); rintro e w2 ⟨rfl, rfl⟩))
    go_ret
    exact ⟨rfl, HB.out _⟩
  by_cases h4 : 1099511627776 < a2
  · clear h
    go_enter Try.func6, Try.ntmps6
    go_wp2_with (first
      | (go_at_call 8; (with_reducible refine Calls.mono (alive_ok _) ?_); rintro e w1 ⟨rfl, hb⟩; have HB := Lib.hid (fun o => hb.alloc hb.size o); clear hb)
      | (go_at_call 15; (with_reducible refine Calls.mono (new_ok a0 _ m0 m1) ?_); rintro e w2 ⟨rfl, rfl⟩))
    go_ret
    exact ⟨rfl, HB.out _⟩
  by_cases h5 : a3 < 1
  · clear h
    go_enter Try.func6, Try.ntmps6
    go_wp2_with (first
      | (go_at_call 8; (with_reducible refine Calls.mono (alive_ok _) ?_); rintro e w1 ⟨rfl, hb⟩; have HB := Lib.hid (fun o => hb.alloc hb.size o); clear hb)
      | (go_at_call 15; (with_reducible refine Calls.mono (new_ok a0 _ m0 m1) ?_); rintro e w2 ⟨rfl, rfl⟩))
    go_ret
    exact ⟨rfl, HB.out _⟩
  by_cases h6 : 1073741824 < a3
  · clear h
    go_enter Try.func6, Try.ntmps6
    go_wp2_with (first
      | (go_at_call 8; (with_reducible refine Calls.mono (alive_ok _) ?_); rintro e w1 ⟨rfl, hb⟩; have HB := Lib.hid (fun o => hb.alloc hb.size o); clear hb)
      | (go_at_call 15; (with_reducible refine Calls.mono (new_ok a0 _ m0 m1) ?_); rintro e w2 ⟨rfl, rfl⟩))
    go_ret
    exact ⟨rfl, HB.out _⟩
  by_cases h7 : a4 < 0
  · clear h
    go_enter Try.func6, Try.ntmps6
    go_wp2_with (first
      | (go_at_call 8; (with_reducible refine Calls.mono (alive_ok _) ?_); rintro e w1 ⟨rfl, hb⟩; have HB := Lib.hid (fun o => hb.alloc hb.size o); clear hb)
      | (go_at_call 15; (with_reducible refine Calls.mono (new_ok a0 _ m0 m1) ?_); rintro e w2 ⟨rfl, rfl⟩))
    go_ret
    exact ⟨rfl, HB.out _⟩
  by_cases h8 : 1099511627776 < a4
  · clear h
    go_enter Try.func6, Try.ntmps6
    go_wp2_with (first
      | (go_at_call 8; (with_reducible refine Calls.mono (alive_ok _) ?_); rintro e w1 ⟨rfl, hb⟩; have HB := Lib.hid (fun o => hb.alloc hb.size o); clear hb)
      | (go_at_call 15; (with_reducible refine Calls.mono (new_ok a0 _ m0 m1) ?_); rintro e w2 ⟨rfl, rfl⟩))
    go_ret
    exact ⟨rfl, HB.out _⟩
  by_cases h9 : a5 < 0
  · clear h
    go_enter Try.func6, Try.ntmps6
    go_wp2_with (first
      | (go_at_call 8; (with_reducible refine Calls.mono (alive_ok _) ?_); rintro e w1 ⟨rfl, hb⟩; have HB := Lib.hid (fun o => hb.alloc hb.size o); clear hb)
      | (go_at_call 15; (with_reducible refine Calls.mono (new_ok a0 _ m0 m1) ?_); rintro e w2 ⟨rfl, rfl⟩))
    go_ret
    exact ⟨rfl, HB.out _⟩
  have h99 : 1073741824 < a5 := by omega
  clear h
  go_enter Try.func6, Try.ntmps6
  go_wp2_with (first
    | (go_at_call 8; (with_reducible refine Calls.mono (alive_ok _) ?_); rintro e w1 ⟨rfl, hb⟩; have HB := Lib.hid (fun o => hb.alloc hb.size o); clear hb)
    | (go_at_call 15; (with_reducible refine Calls.mono (new_ok a0 _ m0 m1) ?_); rintro e w2 ⟨rfl, rfl⟩))
  go_ret
  exact ⟨rfl, HB.out _⟩

set_option maxRecDepth 100000 in
set_option maxHeartbeats 2000000 in
set_option linter.unusedVariables false in
theorem walk (a0 : Int) (a1 : Int) (a2 : Int) (a3 : Int) (a4 : Int) (a5 : Int) (W : World) (w0 : (Lit.int .i64 a0).wf = true) (w1 : (Lit.int .i64 a1).wf = true) (w2 : (Lit.int .i64 a2).wf = true) (w3 : (Lit.int .i64 a3).wf = true) (w4 : (Lit.int .i64 a4).wf = true) (w5 : (Lit.int .i64 a5).wf = true) :
    Calls Try.prog 6 #[.int .i64 a0, .int .i64 a1, .int .i64 a2, .int .i64 a3, .int .i64 a4, .int .i64 a5] W fun e w' => e = .returned (.bool true) ∧ Below W.heap.size W w' := by
  clear w0 w1 w2 w3 w4 w5
  by_cases hin : a0 < 0 ∨ 63 < a0 ∨ a1 < 0 ∨ 63 < a1 ∨ a1 = a0 ∨ a2 < 0 ∨ 1099511627776 < a2 ∨ a3 < 1 ∨ 1073741824 < a3 ∨ a4 < 0 ∨ 1099511627776 < a4 ∨ a5 < 0 ∨ 1073741824 < a5
  · exact early a0 a1 a2 a3 a4 a5 W hin
  have n0 : ¬ (a0 < 0) := fun h => hin (by omega)
  have n1 : ¬ (63 < a0) := fun h => hin (by omega)
  have n2 : ¬ (a1 < 0) := fun h => hin (by omega)
  have n3 : ¬ (63 < a1) := fun h => hin (by omega)
  have n4 : ¬ (a1 = a0) := fun h => hin (by omega)
  have n5 : ¬ (a2 < 0) := fun h => hin (by omega)
  have n6 : ¬ (1099511627776 < a2) := fun h => hin (by omega)
  have n7 : ¬ (a3 < 1) := fun h => hin (by omega)
  have n8 : ¬ (1073741824 < a3) := fun h => hin (by omega)
  have n9 : ¬ (a4 < 0) := fun h => hin (by omega)
  have n10 : ¬ (1099511627776 < a4) := fun h => hin (by omega)
  have n11 : ¬ (a5 < 0) := fun h => hin (by omega)
  have n12 : ¬ (1073741824 < a5) := fun h => hin (by omega)
  clear hin
  have e1 : (a1 == a0) = false := by simpa using n4
  have m0 : 0 ≤ a0 := by omega
  have m1 : a0 ≤ 63 := by omega
  have p1 : okPulse a0 a1 a2 = true := (okPulse_iff _ _ _).2 (by omega)
  have p2 : okPulse a0 a1 (a2 + a3) = true := (okPulse_iff _ _ _).2 (by omega)
  have g1 : tg a2 a4 (a4 + a5) (a2 + a3) = true := tg_iff.2 (by omega)
  have k1 : askOk a0 st0 a1 a2 = true := by simp [askOk, st0, p1, e1]
  have k2 : hearOk a0 (asked st0 a1 a2) a1 a0 a2 a4 (a4 + a5) 0 (a2 + a3) = true := by simp [hearOk, asked, g1]
  have k3 : askOk a0 (heard (asked st0 a1 a2)) a1 (a2 + a3) = true := by simp [askOk, heard, asked, st0, p2, e1]
  have hne : ¬ a2 = a2 + a3 := by omega
  have k4 : hearOk a0 (asked (heard (asked st0 a1 a2)) a1 (a2 + a3)) a1 a0 a2 a4 (a4 + a5) 0 (a2 + 2 * a3) = false := by simp [hearOk, asked]; omega
  obtain ⟨o, ho⟩ : ∃ o, offs a2 a4 (a4 + a5) (a2 + a3) = o := ⟨_, rfl⟩
  have C0 := Lib.hid (fun p w h => ask_ok p a0 st0 a1 a2 w h k1)
  have C1 := Lib.hid (fun p w h => show Calls Try.prog 17 #[.pointer (some ⟨p, 0, none⟩), .agg #[.int .i64 a1, .int .i64 a0, .int .i64 a2, .int .i64 a4, .int .i64 (a4 + a5), .int .i64 0, .int .u16 0, .int .i64 0], .int .i64 (a2 + a3)] w fun e w' => e = .returned (.tuple #[.agg #[.int .i64 (a2 + a3), .int .i64 o, .int .i64 1], .bool true]) ∧ Pd w' p a0 (heard (asked st0 a1 a2)) ∧ Kp (fun k => k = p) w w' from ho ▸ hear_ok p a0 (asked st0 a1 a2) a1 a0 a2 a4 (a4 + a5) 0 0 0 (a2 + a3) w h k2)
  have C2 := Lib.hid (fun p w h => hear_no p a0 (heard (asked st0 a1 a2)) a1 a0 a2 a4 (a4 + a5) 0 0 0 (a2 + a3) w h rfl (by decide) (by decide))
  have C3 := Lib.hid (fun p w h => ask_ok p a0 (heard (asked st0 a1 a2)) a1 (a2 + a3) w h k3)
  have C4 := Lib.hid (fun p w h => hear_no p a0 (asked (heard (asked st0 a1 a2)) a1 (a2 + a3)) a1 a0 a2 a4 (a4 + a5) 0 0 0 (a2 + 2 * a3) w h k4 (by decide) (by decide))
  have C5 := Lib.hid (fun p w h => show Calls Try.prog 19 #[.pointer (some ⟨p, 0, none⟩)] w fun e w' => e = .returned (.bool false) ∧ Pd w' p a0 ⟨a1, a2 + a3, true, 1, 0, 0⟩ ∧ Kp (fun k => k = p) w w' from beat_2 p a0 a1 (a2 + a3) 0 0 w h)
  have C6 := Lib.hid (fun p w h => beat_3 p a0 a1 (a2 + a3) 0 w h)
  have C7 := Lib.hid (fun p w h => hear_no p a0 ⟨a1, a2 + a3, false, 2, 1, 1⟩ a1 a0 (a2 + a3) a4 (a4 + a5) 0 0 0 (a2 + 2 * a3) w h rfl (by decide) (by decide))
  clear p1 p2 g1 k1 k2 k3 k4 hne ho
  go_enter Try.func6, Try.ntmps6
  go_wp2_with fail
  refine (alive_ok _).mono ?_
  rintro e w1 ⟨rfl, hb⟩
  have HB1 := Lib.hid hb
  clear hb
  go_wp2_with fail
  refine (new_ok a0 _ m0 m1).mono ?_
  rintro e w2 ⟨rfl, rfl⟩
  have hp : Pd (w1.alloc (.cells (st0.cs a0) 68)) w1.heap.size a0 st0 := Blk.new _ _ _
  have hb := HB1.out.alloc HB1.out.size (.cells (st0.cs a0) 68)
  have hz := HB1.out.size
  generalize w1.alloc (.cells (st0.cs a0) 68) = w2 at hp hb ⊢
  generalize w1.heap.size = p at hp hz ⊢
  have HP := Lib.hid hp
  have HB := Lib.hid hb
  clear hp hb HB1
  go_wp2_with fail
  refine (C0.out p _ HP.out).mono ?_
  rintro e w3 ⟨rfl, hp, hk⟩
  have HP3 := Lib.hid hp
  have HB3 := Lib.hid (below_kp HB.out HB.out.size hk (fun k hk => by omega))
  clear hp hk HP HB
  have hpl := HP3.out.lt
  have hzl := HB3.out.size
  have HF4 := Lib.hid (fun o => (Blk.new w3 36 #[.int .i64 a0, .int .i64 a1, .int .i64 a2]).alloc o)
  have HR4 := Lib.hid (fun o => show Blk ((w3.alloc o).alloc (.cells #[.int .i64 a1, .int .i64 a0, .int .i64 a2, .int .i64 a4, .int .i64 (a4 + a5), .int .i64 0, .int .u16 0, .int .i64 0] 47)) (w3.heap.size + 1) 47 #[.int .i64 a1, .int .i64 a0, .int .i64 a2, .int .i64 a4, .int .i64 (a4 + a5), .int .i64 0, .int .u16 0, .int .i64 0] from new_at (by simp))
  have HP4 := Lib.hid (fun o o2 => (HP3.out.alloc o).alloc o2)
  have HB4 := Lib.hid (fun o o2 => (HB3.out.alloc HB3.out.size o).alloc (by simp; omega) o2)
  go_wp2_with fail
  refine (C1.out p _ (HP4.out _ _)).mono ?_
  rintro e w5 ⟨rfl, hp, hk⟩
  have HP5 := Lib.hid hp
  have HF5 := Lib.hid (blk_kp (HF4.out _) hk (fun h => by omega))
  have HR5 := Lib.hid (blk_kp (HR4.out _) hk (fun h => by omega))
  have HB5 := Lib.hid (below_kp (HB4.out _ _) (by simp; omega) hk (fun k hk => by omega))
  clear hp hk HP3 HB3 HF4 HR4 HP4 HB4
  have HX6 := Lib.hid (Blk.new w5 43 #[.int .i64 (a2 + a3), .int .i64 o, .int .i64 1])
  have HP6 := Lib.hid (HP5.out.alloc (.cells #[.int .i64 (a2 + a3), .int .i64 o, .int .i64 1] 43))
  have HF6 := Lib.hid (HF5.out.alloc (.cells #[.int .i64 (a2 + a3), .int .i64 o, .int .i64 1] 43))
  have HR6 := Lib.hid (HR5.out.alloc (.cells #[.int .i64 (a2 + a3), .int .i64 o, .int .i64 1] 43))
  have HB6 := Lib.hid (HB5.out.alloc HB5.out.size (.cells #[.int .i64 (a2 + a3), .int .i64 o, .int .i64 1] 43))
  clear HP5 HF5 HR5 HB5
  have hc := cells8 HR6.out
  obtain ⟨r0, r1, r2, r3, r4, r5, r6, r7⟩ := hc
  go_wp2_with fail
  refine (C2.out p _ HP6.out).mono ?_
  rintro e w7 ⟨rfl, hb⟩
  have HP7 := Lib.hid (HP6.out.keeps hb)
  have HF7 := Lib.hid (HF6.out.keeps hb)
  have HR7 := Lib.hid (HR6.out.keeps hb)
  have HX7 := Lib.hid (HX6.out.keeps hb)
  have HB7 := Lib.hid (HB6.out.trans (hb.mono HB6.out.size))
  clear hb HP6 HF6 HR6 HX6 HB6 r0 r1 r2 r3 r4 r5 r6 r7
  have HP8 := Lib.hid (HP7.out.alloc (.cells #[.int .i64 0, .int .i64 0, .int .i64 0] 43))
  have HR8 := Lib.hid (HR7.out.alloc (.cells #[.int .i64 0, .int .i64 0, .int .i64 0] 43))
  have HB8 := Lib.hid (HB7.out.alloc HB7.out.size (.cells #[.int .i64 0, .int .i64 0, .int .i64 0] 43))
  have f2 : (w7.alloc (.cells #[.int .i64 0, .int .i64 0, .int .i64 0] 43)).cell? ⟨w3.heap.size, 2, none⟩ = some (.int .i64 a2) := (HF7.out.alloc _).cell 2
  have y0 : (w7.alloc (.cells #[.int .i64 0, .int .i64 0, .int .i64 0] 43)).cell? ⟨w5.heap.size, 0, none⟩ = some (.int .i64 (a2 + a3)) := (HX7.out.alloc _).cell 0
  have y2 : (w7.alloc (.cells #[.int .i64 0, .int .i64 0, .int .i64 0] 43)).cell? ⟨w5.heap.size, 2, none⟩ = some (.int .i64 1) := (HX7.out.alloc _).cell 2
  go_wp2_with (go_at_call 20; (with_reducible refine Calls.mono (waits_ok p a0 (heard (asked st0 a1 a2)) _ HP8.out) ?_); rintro e w8 ⟨rfl, rfl⟩)
  refine (C3.out p _ HP8.out).mono ?_
  rintro e w9 ⟨rfl, hp, hk⟩
  have HP9 := Lib.hid hp
  have HR9 := Lib.hid (blk_kp HR8.out hk (fun h => by omega))
  have HB9 := Lib.hid (below_kp HB8.out (by have := HB7.out.size; simp; omega) hk (fun k hk => by omega))
  clear hp hk HP8 HR8 HB8 f2 y0 y2 HF7 HX7 HP7 HR7 HB7
  have hc := cells8 HR9.out
  obtain ⟨r0, r1, r2, r3, r4, r5, r6, r7⟩ := hc
  go_wp2_with fail
  refine (C4.out p _ HP9.out).mono ?_
  rintro e w10 ⟨rfl, hb⟩
  have HP10 := Lib.hid ((HP9.out.keeps hb).alloc (.cells #[.int .i64 0, .int .i64 0, .int .i64 0] 43))
  have HR10 := Lib.hid ((HR9.out.keeps hb).alloc (.cells #[.int .i64 0, .int .i64 0, .int .i64 0] 43))
  have HB10 := Lib.hid ((HB9.out.trans (hb.mono HB9.out.size)).alloc (Nat.le_trans HB9.out.size hb.size) (.cells #[.int .i64 0, .int .i64 0, .int .i64 0] 43))
  clear hb HP9 HR9 HB9 r0 r1 r2 r3 r4 r5 r6 r7
  go_wp2_with fail
  refine (C5.out p _ HP10.out).mono ?_
  rintro e w11 ⟨rfl, hp, hk⟩
  have HP11 := Lib.hid hp
  have HR11 := Lib.hid (blk_kp HR10.out hk (fun h => by omega))
  have HB11 := Lib.hid (below_kp HB10.out HB10.out.size hk (fun k hk => by omega))
  clear hp hk HP10 HR10 HB10
  go_wp2_with fail
  refine (C6.out p _ HP11.out).mono ?_
  rintro e w12 ⟨rfl, hp, hk⟩
  have HP12 := Lib.hid hp
  have HR12 := Lib.hid (blk_kp HR11.out hk (fun h => by omega))
  have HB12 := Lib.hid (below_kp HB11.out HB11.out.size hk (fun k hk => by omega))
  clear hp hk HP11 HR11 HB11
  have hc := cells8 HR12.out
  obtain ⟨r0, r1, r2, r3, r4, r5, r6, r7⟩ := hc
  have f2 := HR12.out.frozen 2
  have hwp : ¬ w3.heap.size + 1 = p := by omega
  have HR13 := Lib.hid (HR12.out.set_ 2 (.int .i64 (a2 + a3)))
  have HP13 := Lib.hid (HP12.out.far (p := ⟨w3.heap.size + 1, 2, none⟩) (fun h => hwp h.symm) (.int .i64 (a2 + a3)))
  have HB13 := Lib.hid (HB12.out.setCell (p := ⟨w3.heap.size + 1, 2, none⟩) (show W.heap.size ≤ w3.heap.size + 1 by omega) (.int .i64 (a2 + a3)))
  go_wp2_with fail
  refine (C7.out p _ HP13.out).mono ?_
  rintro e w14 ⟨rfl, hb⟩
  have HP14 := Lib.hid ((HP13.out.keeps hb).alloc (.cells #[.int .i64 0, .int .i64 0, .int .i64 0] 43))
  have HB14 := Lib.hid ((HB13.out.trans (hb.mono HB13.out.size)).alloc (Nat.le_trans HB13.out.size hb.size) (.cells #[.int .i64 0, .int .i64 0, .int .i64 0] 43))
  clear hb HP13 HR13 HB13 r0 r1 r2 r3 r4 r5 r6 r7 f2
  go_wp2_with (first
    | (go_at_call 20; (with_reducible refine Calls.mono (waits_ok p a0 ⟨a1, a2 + a3, false, 2, 1, 1⟩ _ HP14.out) ?_); rintro e w8 ⟨rfl, rfl⟩)
    | (go_at_call 21; (with_reducible refine Calls.mono (rests_ok p a0 ⟨a1, a2 + a3, false, 2, 1, 1⟩ _ HP14.out) ?_); rintro e w8 ⟨rfl, rfl⟩))
  go_ret
  exact ⟨rfl, HB14.out⟩
end Go.Proofs.Ythnnejflgbminab.PairOnceW
