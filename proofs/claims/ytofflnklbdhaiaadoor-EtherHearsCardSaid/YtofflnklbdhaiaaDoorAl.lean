/- The check ahead of each of ether's laws. -/
import Derived.Test.YtofflnklbdhaiaaDoorAk
import Derived.Test.YtofflnklbdhaiaaDoorBo
namespace Go.Proofs.YtofflnklbdhaiaaDoor.Al
open Go.RowKit Go.Proofs.YtofflnklbdhaiaaDoor.Bk Go.Proofs.YtofflnklbdhaiaaDoor.Rw Go.Proofs.YtofflnklbdhaiaaDoor.Ow Go.Proofs.YtofflnklbdhaiaaDoor.Kp Go.Proofs.YtofflnklbdhaiaaDoor.Bl Go.Proofs.YtofflnklbdhaiaaDoor.Tz Go.Proofs.YtofflnklbdhaiaaDoor.Lk Go.Proofs.YtofflnklbdhaiaaDoor.Er Go.Proofs.YtofflnklbdhaiaaDoor.Sr Go.Proofs.YtofflnklbdhaiaaDoor.Ak Go.Proofs.YtofflnklbdhaiaaDoor.Bo Go.Proofs.YtofflnklbdhaiaaDoor.Rm
theorem list_at (w : World) : Lf.RowsAt (w.alloc (.cells #[.int .i64 0, .int .i64 1, .int .i64 1, .int .i64 2] 49)) [.i .i64, .i .i64] (some ⟨w.heap.size, 0, none⟩) 2 [[.int .i64 0, .int .i64 1], [.int .i64 1, .int .i64 2]] := by
  refine ⟨rfl, fun c hc => ?_, fun _ => ⟨_, rfl, by simp, fun i c hi j u hu => ?_⟩⟩
  · simp at hc
    rcases hc with rfl | rfl
    · exact ⟨⟨0, rfl, by decide⟩, ⟨1, rfl, by decide⟩, trivial⟩
    · exact ⟨⟨1, rfl, by decide⟩, ⟨2, rfl, by decide⟩, trivial⟩
  · have hb := Blk.new w 49 #[.int .i64 0, .int .i64 1, .int .i64 1, .int .i64 2]
    rw [show ∀ k, (⟨w.heap.size, 0, none⟩ : Addr).add k = ⟨w.heap.size, k, none⟩ from fun k => by unfold Addr.add; split <;> simp_all, hb.cell]
    rcases i with _ | _ | i
    · simp at hi
      subst hi
      rcases j with _ | _ | j
      · exact hu
      · exact hu
      · simp at hu
    · simp at hi
      subst hi
      rcases j with _ | _ | j
      · exact hu
      · exact hu
      · simp at hu
    · simp at hi
theorem two_of (w : World) (base : Nat) (v : Value) (l : List (Int × Int)) (h : Ro w base v l) (hl : l.length = 3) : ∃ g c, v = .slice (some ⟨g, 0, none⟩) 3 c ∧ Es w g l ∧ 3 ≤ c := by
  obtain ⟨g, c, h1, _, h2, h3⟩ := h.es (by omega)
  rw [hl] at h1 h3
  exact ⟨g, c, h1, h2, h3⟩
set_option maxRecDepth 100000 in
set_option maxHeartbeats 2000000 in
theorem alive_ok (w : World) (hT : Tab w) : Calls Tryd.prog 6 #[] w fun e w' => e = .returned (.bool true) ∧ Below w.heap.size w w' := by
  have hb0 := (Below.refl w.heap.size w).alloc (Nat.le_refl _) (.cells #[.int .i64 0, .int .i64 1, .int .i64 1, .int .i64 2] 49)
  have CB := Lib.hid (both_ok 3 (some ⟨w.heap.size, 0, none⟩) 2 2 _ _ (by decide) (by decide) (list_at w) (by decide))
  rw [show runp (List.replicate 3 0) [[.int .i64 0, .int .i64 1], [.int .i64 1, .int .i64 2]] = [2, 5, 2] by decide] at CB
  have HT := Lib.hid hT
  have HB0 := Lib.hid hb0
  have hw0 := hT.1
  have hsz : (w.alloc (.cells #[.int .i64 0, .int .i64 1, .int .i64 1, .int .i64 2] 49)).heap.size = w.heap.size + 1 := by simp
  clear hT hb0
  go_enter Tryd.func6, Tryd.ntmps6
  go_wp2_with (go_at_call 7; (with_reducible refine Calls.mono CB.out ?_); rintro e w1 ⟨⟨p, g, m, rfl, hL, _, _, _, _⟩, hb⟩)
  have HB1 := Lib.hid (HB0.out.trans (hb.mono (by omega)))
  have HL1 := Lib.hid hL
  have HT1 := Lib.hid (HT.out.below HB1.out hw0)
  have CS := Lib.hid (step_ok (some ⟨p, 0, none⟩) [2, 5, 2] 1 7 [] none 0 w1 (.inr ⟨p, g, rfl, hL⟩) (by decide) (by decide) (by decide) Ri.nil (fun x hx => nomatch hx) HT1.out)
  clear hb hL CB HB0 hsz
  go_wp2_with (go_at_call 8; (with_reducible refine Calls.mono CS.out ?_); rintro e w2 ⟨⟨v, rfl, hv⟩, hb⟩)
  have hE1 : ears [2, 5, 2] 1 7 [] 3 = [(-1, 0), (0, 1), (-1, 0)] := by decide
  obtain ⟨g1, k1, rfl, hes1, hk1⟩ := two_of _ _ _ _ hv (by decide)
  rw [show ears [2, 5, 2] 1 7 [] ([2, 5, 2] : List Nat).length = [(-1, 0), (0, 1), (-1, 0)] from hE1] at hes1
  have HB2 := Lib.hid (HB1.out.trans (hb.mono HB1.out.size))
  have HL2 := Lib.hid (HL1.out.below hb)
  have HT2 := Lib.hid (HT1.out.below hb HT1.out.1)
  have HS2 := Lib.hid hes1
  have CS2 := Lib.hid (step_ok (some ⟨p, 0, none⟩) [2, 5, 2] 5 7 [] none 0 w2 (.inr ⟨p, g, rfl, HL2.out⟩) (by decide) (by decide) (by decide) Ri.nil (fun x hx => nomatch hx) HT2.out)
  clear hb hes1 hv CS HB1 HL1 HT1 hE1
  go_wp2_with (first
    | (go_at_call 8
       (with_reducible refine Calls.mono CS2.out ?_)
       rintro e w3 ⟨⟨v, rfl, hv⟩, hb⟩
       have hE2 : ears [2, 5, 2] 5 7 [] 3 = [(-1, 0), (-1, 4), (-1, 0)] := by decide
       obtain ⟨g2, k2, rfl, hes2, hk2⟩ := two_of _ _ _ _ hv (by decide)
       rw [show ears [2, 5, 2] 5 7 [] ([2, 5, 2] : List Nat).length = [(-1, 0), (-1, 4), (-1, 0)] from hE2] at hes2
       have HB3 := Lib.hid (HB2.out.trans (hb.mono HB2.out.size))
       have HL3 := Lib.hid (HL2.out.below hb)
       have HT3 := Lib.hid (HT2.out.below hb HT2.out.1)
       have HS3 := Lib.hid (HS2.out.keeps hb)
       obtain ⟨s1, s2⟩ := HS3.out.2 1 (by decide)
       obtain ⟨r1, r2⟩ := hes2.2 1 (by decide)
       have s1 : w3.cell? ⟨g1, 2, none⟩ = some (.int .i64 0) := s1
       have s2 : w3.cell? ⟨g1, 3, none⟩ = some (.int .i64 1) := s2
       have r1 : w3.cell? ⟨g2, 2, none⟩ = some (.int .i64 (-1)) := r1
       have r2 : w3.cell? ⟨g2, 3, none⟩ = some (.int .i64 4) := r2
       have CA := Lib.hid (show Calls Tryd.prog 9 #[.pointer (some ⟨p, 0, none⟩), .int .i64 0, .slice (some ⟨g1, 0, none⟩) 3 k1] w3 fun e w' => e = .returned (.int .u64 2) ∧ Below w3.heap.size w3 w' from ask_ok (some ⟨p, 0, none⟩) [2, 5, 2] 0 [(-1, 0), (0, 1), (-1, 0)] g1 k1 w3 (.inr ⟨p, g, rfl, HL3.out⟩) HS3.out HT3.out)
       clear hb hes2 hv CS2 HB2 HL2 HT2 hE2 HS2 HL3 HT3 HS3)
    | (go_at_call 9; (with_reducible refine Calls.mono CA.out ?_); rintro e w4 ⟨rfl, hb⟩))
  have HB4 := Lib.hid (HB3.out.trans (hb.mono HB3.out.size))
  clear hb HB3 CA
  go_ret
  exact ⟨rfl, HB4.out⟩
end Go.Proofs.YtofflnklbdhaiaaDoor.Al
