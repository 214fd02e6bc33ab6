/- The walks of elect's functions: Hear of a new root. -/
import Derived.Test.YthnnejflgbminaaEl4
namespace Go.Proofs.Ythnnejflgbminaa.El
open Go.RowKit Go.Proofs.Ythnnejflgbminaa.Bk Go.Proofs.Ythnnejflgbminaa.Rw Go.Proofs.Ythnnejflgbminaa.Ow Go.Proofs.Ythnnejflgbminaa.Kp Go.Proofs.Ythnnejflgbminaa.Sq Go.Proofs.Ythnnejflgbminaa.Ck Go.Proofs.Ythnnejflgbminaa.Ck2 Go.Proofs.Ythnnejflgbminaa.Mp

theorem hear_yes0 (p bm n : Nat) (f : Int → Option (Int × Int)) (me t g r : Int) (m : Int × Int) (s : St) (w : World) (h : Nd w p me t g s bm) (hf : Mp w bm n f) (hn2 : n < maxLen) (hr : -9223372036854775808 ≤ r ∧ r ≤ 9223372036854775807) (hm : mayb me s r = true) (ho : f r = none) :
    Calls Try.prog 10 #[.pointer (some ⟨p, 0, none⟩), .int .i64 r, mk m] w fun e w' => e = .returned (.int .i64 (hmv s r m (0, 0))) ∧ Nd w' p me t g { s with root := r, beats := 0, quiet := 0 } bm ∧ Mp w' bm (n + 1) (put f r m) ∧ Kp (fun k => k = p ∨ k = bm) w w' := by
  have HM := Lib.hid (hm ▸ may_ok p bm me t g r s _ (h.alloc (.cells #[.int .u16 m.1, .int .u16 m.2] 32)))
  have HK := Lib.hid ((Kp.refl (fun k => k = p ∨ k = bm) w).alloc (.cells #[.int .u16 m.1, .int .u16 m.2] 32))
  have hwf : (Lit.int .i64 r).wf = true := WalkArith.wf_i64 (by omega)
  have HL := Lib.hid (fun w (h : Mp w bm n f) => (show (Instr.lookup 56 (.map (some bm)) (.int .i64 r) true).run Try.prog w = .ok (.tuple #[mk (0, 0), .bool false]) w from by have := h.look_ok hwf; rwa [ho] at this))
  have HP := Lib.hid (h.alloc (.cells #[.int .u16 m.1, .int .u16 m.2] 32))
  have HF := Lib.hid (hf.alloc (.cells #[.int .u16 m.1, .int .u16 m.2] 32))
  have HX := Lib.hid (Blk.new w 32 #[.int .u16 m.1, .int .u16 m.2])
  have hp := h.lt
  have hbm := hf.lt
  have HWF := Lib.hid hwf
  have HBP := Lib.hid (hf.blk_ne h)
  obtain ⟨sb, ss, sr, sbe, sq⟩ := s
  dsimp only
  clear h hm hf ho hwf
  have H3 : (sr = r ∧ 0 = m.1) ∨ (sr = r ∧ ¬ 0 = m.1) ∨ ¬ sr = r := by
    by_cases k : sr = r
    · by_cases k2 : 0 = m.1
      · exact .inl ⟨k, k2⟩
      · exact .inr (.inl ⟨k, k2⟩)
    · exact .inr (.inr k)
  rcases H3 with ⟨k, k2⟩ | ⟨k, k2⟩ | k
  · rw [show hmv ⟨sb, ss, sr, sbe, sq⟩ r m (0, 0) = 1 by simp [hmv, k, k2]]
    have k3 : (0 != m.1) = false := by simp [k2]
    clear k2
    go_enter Try.func10, Try.ntmps10
    go_wp2_with (go_at_call 25; (with_reducible refine Calls.mono HM.out ?_); rintro e w1 ⟨rfl, hb⟩; have HK2 := Lib.hid ((HK.out.below hb).alloc (.cells #[.int .u16 0, .int .u16 0] 32)); have hl := HL.out w1 (HF.out.of_heap (hb.block _ HF.out.lt)); have HF2 := Lib.hid ((HF.out.of_heap (hb.block _ HF.out.lt)).alloc (.cells #[.int .u16 0, .int .u16 0] 32)); have HP1 := Lib.hid (HP.out.keeps hb); have d8 : w1.cell? ⟨p, 8, none⟩ = some (.map (some bm)) := HP1.out.cell 8; have HP2 := Lib.hid (HP1.out.alloc (.cells #[.int .u16 0, .int .u16 0] 32)); have HX2 := Lib.hid ((HX.out.keeps hb).alloc (.cells #[.int .u16 0, .int .u16 0] 32)); have HO2 := Lib.hid (Blk.new w1 32 #[.int .u16 0, .int .u16 0]); have hx := cells9 HP2.out; obtain ⟨⟨c0, c1, c2, c3, c4, c5, c6, c7, c8⟩, f0, f1, f2, f3, f4, f5, f6, f7, f8⟩ := hx; have hy := cells2 HX2.out; obtain ⟨y0, y1, y2, y3⟩ := hy; have hz := cells2 HO2.out; obtain ⟨z0, z1, z2, z3⟩ := hz; clear hb)
    all_goals
      have hu := HF2.out.drew.store hn2 HWF.out m
      obtain ⟨w4, hu, hm4, hg4⟩ := hu
      have hne := HF2.out.blk_ne HP2.out
      have hp4 : Nd w4 p me t g ⟨sb, ss, sr, sbe, sq⟩ bm := HP2.out.drew.grown hg4 (fun e => hne (by injection e with e; exact e.symm))
      have hk4 : Kp (fun k => k = p ∨ k = bm) w w4 := (HK2.out.drew).grown hg4 (fun q hq => by injection hq with hq; exact .inl (.inr hq.symm))
      have HP4 := Lib.hid hp4
      have HM4 := Lib.hid hm4
      have HK4 := Lib.hid hk4
      clear hp4 hm4 hk4 hg4 hne
      have hx4 := cells9 HP4.out
      obtain ⟨⟨p0, p1, p2, p3, p4, p5, p6, p7, p8⟩, q0, q1, q2, q3, q4, q5, q6, q7, q8⟩ := hx4
      go_region
      go_wp2_with fail
      go_ret
      have hm4 := HM4.out
      have hp4 := HP4.out
      have hk4 := HK4.out
      have hbp := HBP.out
      refine ⟨rfl, ?_, ?_, ?_⟩
      · ((repeat (first | (with_reducible assumption) | (with_reducible apply Blk.drew) | (with_reducible apply set_at2) | ((with_reducible apply set_far); (focus omega)) | (with_reducible apply Blk.alloc))); all_goals rfl)
      · exact ((hm4.far hbp _).far hbp _).far hbp _
      · exact ((hk4.set_ ⟨p, 5, none⟩ (.inl (.inl rfl)) _).set_ ⟨p, 6, none⟩ (.inl (.inl rfl)) _).set_ ⟨p, 7, none⟩ (.inl (.inl rfl)) _
  · rw [show hmv ⟨sb, ss, sr, sbe, sq⟩ r m (0, 0) = 2 by simp [hmv, k, k2]]
    go_enter Try.func10, Try.ntmps10
    go_wp2_with (go_at_call 25; (with_reducible refine Calls.mono HM.out ?_); rintro e w1 ⟨rfl, hb⟩; have HK2 := Lib.hid ((HK.out.below hb).alloc (.cells #[.int .u16 0, .int .u16 0] 32)); have hl := HL.out w1 (HF.out.of_heap (hb.block _ HF.out.lt)); have HF2 := Lib.hid ((HF.out.of_heap (hb.block _ HF.out.lt)).alloc (.cells #[.int .u16 0, .int .u16 0] 32)); have HP1 := Lib.hid (HP.out.keeps hb); have d8 : w1.cell? ⟨p, 8, none⟩ = some (.map (some bm)) := HP1.out.cell 8; have HP2 := Lib.hid (HP1.out.alloc (.cells #[.int .u16 0, .int .u16 0] 32)); have HX2 := Lib.hid ((HX.out.keeps hb).alloc (.cells #[.int .u16 0, .int .u16 0] 32)); have HO2 := Lib.hid (Blk.new w1 32 #[.int .u16 0, .int .u16 0]); have hx := cells9 HP2.out; obtain ⟨⟨c0, c1, c2, c3, c4, c5, c6, c7, c8⟩, f0, f1, f2, f3, f4, f5, f6, f7, f8⟩ := hx; have hy := cells2 HX2.out; obtain ⟨y0, y1, y2, y3⟩ := hy; have hz := cells2 HO2.out; obtain ⟨z0, z1, z2, z3⟩ := hz; clear hb)
    all_goals
      have hu := HF2.out.drew.store hn2 HWF.out m
      obtain ⟨w4, hu, hm4, hg4⟩ := hu
      have hne := HF2.out.blk_ne HP2.out
      have hp4 : Nd w4 p me t g ⟨sb, ss, sr, sbe, sq⟩ bm := HP2.out.drew.grown hg4 (fun e => hne (by injection e with e; exact e.symm))
      have hk4 : Kp (fun k => k = p ∨ k = bm) w w4 := (HK2.out.drew).grown hg4 (fun q hq => by injection hq with hq; exact .inl (.inr hq.symm))
      have HP4 := Lib.hid hp4
      have HM4 := Lib.hid hm4
      have HK4 := Lib.hid hk4
      clear hp4 hm4 hk4 hg4 hne
      have hx4 := cells9 HP4.out
      obtain ⟨⟨p0, p1, p2, p3, p4, p5, p6, p7, p8⟩, q0, q1, q2, q3, q4, q5, q6, q7, q8⟩ := hx4
      go_region
      go_wp2_with fail
      go_ret
      have hm4 := HM4.out
      have hp4 := HP4.out
      have hk4 := HK4.out
      have hbp := HBP.out
      refine ⟨rfl, ?_, ?_, ?_⟩
      · ((repeat (first | (with_reducible assumption) | (with_reducible apply Blk.drew) | (with_reducible apply set_at2) | ((with_reducible apply set_far); (focus omega)) | (with_reducible apply Blk.alloc))); all_goals rfl)
      · exact ((hm4.far hbp _).far hbp _).far hbp _
      · exact ((hk4.set_ ⟨p, 5, none⟩ (.inl (.inl rfl)) _).set_ ⟨p, 6, none⟩ (.inl (.inl rfl)) _).set_ ⟨p, 7, none⟩ (.inl (.inl rfl)) _
  · rw [show hmv ⟨sb, ss, sr, sbe, sq⟩ r m (0, 0) = 2 by simp [hmv, k]]
    go_enter Try.func10, Try.ntmps10
    go_wp2_with (go_at_call 25; (with_reducible refine Calls.mono HM.out ?_); rintro e w1 ⟨rfl, hb⟩; have HK2 := Lib.hid ((HK.out.below hb).alloc (.cells #[.int .u16 0, .int .u16 0] 32)); have hl := HL.out w1 (HF.out.of_heap (hb.block _ HF.out.lt)); have HF2 := Lib.hid ((HF.out.of_heap (hb.block _ HF.out.lt)).alloc (.cells #[.int .u16 0, .int .u16 0] 32)); have HP1 := Lib.hid (HP.out.keeps hb); have d8 : w1.cell? ⟨p, 8, none⟩ = some (.map (some bm)) := HP1.out.cell 8; have HP2 := Lib.hid (HP1.out.alloc (.cells #[.int .u16 0, .int .u16 0] 32)); have HX2 := Lib.hid ((HX.out.keeps hb).alloc (.cells #[.int .u16 0, .int .u16 0] 32)); have HO2 := Lib.hid (Blk.new w1 32 #[.int .u16 0, .int .u16 0]); have hx := cells9 HP2.out; obtain ⟨⟨c0, c1, c2, c3, c4, c5, c6, c7, c8⟩, f0, f1, f2, f3, f4, f5, f6, f7, f8⟩ := hx; have hy := cells2 HX2.out; obtain ⟨y0, y1, y2, y3⟩ := hy; have hz := cells2 HO2.out; obtain ⟨z0, z1, z2, z3⟩ := hz; clear hb)
    all_goals
      have hu := HF2.out.drew.store hn2 HWF.out m
      obtain ⟨w4, hu, hm4, hg4⟩ := hu
      have hne := HF2.out.blk_ne HP2.out
      have hp4 : Nd w4 p me t g ⟨sb, ss, sr, sbe, sq⟩ bm := HP2.out.drew.grown hg4 (fun e => hne (by injection e with e; exact e.symm))
      have hk4 : Kp (fun k => k = p ∨ k = bm) w w4 := (HK2.out.drew).grown hg4 (fun q hq => by injection hq with hq; exact .inl (.inr hq.symm))
      have HP4 := Lib.hid hp4
      have HM4 := Lib.hid hm4
      have HK4 := Lib.hid hk4
      clear hp4 hm4 hk4 hg4 hne
      have hx4 := cells9 HP4.out
      obtain ⟨⟨p0, p1, p2, p3, p4, p5, p6, p7, p8⟩, q0, q1, q2, q3, q4, q5, q6, q7, q8⟩ := hx4
      go_region
      go_wp2_with fail
      go_ret
      have hm4 := HM4.out
      have hp4 := HP4.out
      have hk4 := HK4.out
      have hbp := HBP.out
      refine ⟨rfl, ?_, ?_, ?_⟩
      · ((repeat (first | (with_reducible assumption) | (with_reducible apply Blk.drew) | (with_reducible apply set_at2) | ((with_reducible apply set_far); (focus omega)) | (with_reducible apply Blk.alloc))); all_goals rfl)
      · exact ((hm4.far hbp _).far hbp _).far hbp _
      · exact ((hk4.set_ ⟨p, 5, none⟩ (.inl (.inl rfl)) _).set_ ⟨p, 6, none⟩ (.inl (.inl rfl)) _).set_ ⟨p, 7, none⟩ (.inl (.inl rfl)) _
end Go.Proofs.Ythnnejflgbminaa.El
