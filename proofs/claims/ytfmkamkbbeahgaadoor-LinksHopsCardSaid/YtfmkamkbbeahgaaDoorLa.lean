/- The check ahead of each of links' laws. -/
import Derived.Test.YtfmkamkbbeahgaaDoorHo
import Derived.Test.YtfmkamkbbeahgaaDoorSt
namespace Go.Proofs.YtfmkamkbbeahgaaDoor.La
open Go.RowKit Go.Proofs.YtfmkamkbbeahgaaDoor.Bk Go.Proofs.YtfmkamkbbeahgaaDoor.Rw Go.Proofs.YtfmkamkbbeahgaaDoor.Ow Go.Proofs.YtfmkamkbbeahgaaDoor.Kp Go.Proofs.YtfmkamkbbeahgaaDoor.Bl Go.Proofs.YtfmkamkbbeahgaaDoor.Tz Go.Proofs.YtfmkamkbbeahgaaDoor.Lk Go.Proofs.YtfmkamkbbeahgaaDoor.Hm Go.Proofs.YtfmkamkbbeahgaaDoor.Ho

theorem ri_blk {w : World} {b : Nat} {l : List Int} (h : Blk w b 3 (l.map (Value.int .i64)).toArray) (hl : l.length ≤ maxLen) : Ri .i64 w (some ⟨b, 0, none⟩) l :=
  ⟨hl, fun _ => ⟨_, rfl, h.lt, fun j x hx => by
    rw [show (⟨b, 0, none⟩ : Addr).add j = ⟨b, j, none⟩ by unfold Addr.add; split <;> simp_all, h.cell j]
    simp [hx]⟩⟩
theorem hops_a : hops [2, 5, 2] 0 7 = [0, 1, 2] := by
  have h : hops [2, 5, 2] 0 7 = rounds [2, 5, 2] [-1, -1, -1] 1 7 0 := rfl
  rw [h, rounds_go (by decide) (by decide) (by decide), show reach [2, 5, 2] 0 (bl 1) &&& cut 7 1 = 2 by decide, show cut 7 1 = 6 by decide, show paint [-1, -1, -1] 0 (bl 1) = [0, -1, -1] by decide]
  rw [rounds_go (by decide) (by decide) (by decide), show reach [2, 5, 2] 0 (bl 2) &&& cut 6 2 = 4 by decide, show cut 6 2 = 4 by decide, show paint [0, -1, -1] (0 + 1) (bl 2) = [0, 1, -1] by decide]
  rw [rounds_go (by decide) (by decide) (by decide), show reach [2, 5, 2] 0 (bl 4) &&& cut 4 4 = 0 by decide, show cut 4 4 = 0 by decide, show paint [0, 1, -1] (0 + 1 + 1) (bl 4) = [0, 1, 2] by decide]
  rw [rounds_end]
theorem hops_b : hops [2, 5, 2] 0 5 = [0, -1, -1] := by
  have h : hops [2, 5, 2] 0 5 = rounds [2, 5, 2] [-1, -1, -1] 1 5 0 := rfl
  rw [h, rounds_go (by decide) (by decide) (by decide), show reach [2, 5, 2] 0 (bl 1) &&& cut 5 1 = 0 by decide, show cut 5 1 = 4 by decide, show paint [-1, -1, -1] 0 (bl 1) = [0, -1, -1] by decide]
  rw [rounds_end]
theorem same3 (A B : Option Addr) (x y z : Int) (w : World) (hA : Ri .i64 w A [x, y, z]) (hB : Ri .i64 w B [x, y, z]) : Calls Tryd.prog 12 #[.slice A 3 3, .slice B 3 3] w fun e w' => e = .returned (.bool true) ∧ Below w.heap.size w w' :=
  same_eq A B 3 3 [x, y, z] w hA hB (by simp)
set_option maxRecDepth 100000 in
theorem alive_ok (w : World) (hT : Tab w) : Calls Tryd.prog 9 #[] w fun e w' => e = .returned (.bool true) ∧ Below w.heap.size w w' := by
  have CN := Lib.hid (new_ok 3 w (by decide) (by decide))
  have HT := Lib.hid hT
  have hw0 := hT.1
  clear hT
  go_enter Tryd.func9, Tryd.ntmps9
  go_wp2_with (go_at_call 13; (with_reducible refine Calls.mono CN.out ?_); rintro e w1 ⟨p, g, rfl, hL, hp, hg, hb⟩)
  have HB1 := Lib.hid hb
  have HT1 := Lib.hid (HT.out.below hb HT.out.1)
  have CS := Lib.hid (show Calls Tryd.prog 14 #[.pointer (some ⟨p, 0, none⟩), .int .i64 0, .int .i64 1, .bool true] w1 fun e w' => e = .returned (.int .i64 0) ∧ Ln w' p g [2, 1, 0] ∧ Kp (fun b => b = g) w1 w' from set_on p g _ 0 1 (by decide) (by decide) (by decide) w1 hL)
  clear hb hL HT CN
  go_wp2_with (go_at_call 14; (with_reducible refine Calls.mono CS.out ?_); rintro e w2 ⟨rfl, hL, hk⟩)
  have HB2 := Lib.hid (below_kp HB1.out HB1.out.size hk (fun k hk => by omega))
  have HT2 := Lib.hid (HT1.out.kp hk (by omega))
  have CS2 := Lib.hid (show Calls Tryd.prog 14 #[.pointer (some ⟨p, 0, none⟩), .int .i64 2, .int .i64 1, .bool true] w2 fun e w' => e = .returned (.int .i64 0) ∧ Ln w' p g [2, 5, 2] ∧ Kp (fun b => b = g) w2 w' from set_on p g _ 2 1 (by decide) (by decide) (by decide) w2 hL)
  clear hk hL CS HT1 HB1
  go_wp2_with (go_at_call 14; (with_reducible refine Calls.mono CS2.out ?_); rintro e w3 ⟨rfl, hL, hk⟩)
  have HB3 := Lib.hid (below_kp HB2.out HB2.out.size hk (fun k hk => by omega))
  have HT3 := Lib.hid (HT2.out.kp hk (by omega))
  have HL3 := Lib.hid hL
  have CH1 := Lib.hid (show Calls Tryd.prog 15 #[.pointer (some ⟨p, 0, none⟩), .int .i64 0, .int .u64 7] w3 fun e w' => (∃ b, e = .returned (.slice (some ⟨b, 0, none⟩) 3 3) ∧ Blk w' b 3 (([0, 1, 2] : List Int).map (Value.int .i64)).toArray ∧ w3.heap.size ≤ b) ∧ Below w3.heap.size w3 w' by
    rw [← hops_a]; exact hops_ok p g [2, 5, 2] 0 7 w3 hL (by decide) HT3.out)
  clear hk hL CS2 HT2 HB2
  go_wp2_with (go_at_call 15; (with_reducible refine Calls.mono CH1.out ?_); rintro e w4 ⟨⟨b1, rfl, hb1, hn1⟩, hb⟩)
  have HL4 := Lib.hid (HL3.out.below hb)
  have HT4 := Lib.hid (HT3.out.below hb HT3.out.1)
  have HB4 := Lib.hid (HB3.out.trans (hb.mono HB3.out.size))
  have HA1 := Lib.hid hb1
  have CH2 := Lib.hid (show Calls Tryd.prog 15 #[.pointer (some ⟨p, 0, none⟩), .int .i64 0, .int .u64 5] w4 fun e w' => (∃ b, e = .returned (.slice (some ⟨b, 0, none⟩) 3 3) ∧ Blk w' b 3 (([0, -1, -1] : List Int).map (Value.int .i64)).toArray ∧ w4.heap.size ≤ b) ∧ Below w4.heap.size w4 w' by
    rw [← hops_b]; exact hops_ok p g [2, 5, 2] 0 5 w4 HL4.out (by decide) HT4.out)
  clear hb hb1 CH1 HL3 HT3 HB3
  go_wp2_with (go_at_call 15; (with_reducible refine Calls.mono CH2.out ?_); rintro e w5 ⟨⟨b2, rfl, hb2, hn2⟩, hb⟩)
  have HL5 := Lib.hid (HL4.out.below hb)
  have HB5 := Lib.hid (HB4.out.trans (hb.mono HB4.out.size))
  have HA2 := Lib.hid (HA1.out.keeps hb)
  have HE2 := Lib.hid hb2
  clear hb hb2 CH2 HL4 HT4 HB4 HA1
  have R1 := Lib.hid (same3 (some ⟨b1, 0, none⟩) (some ⟨w5.heap.size, 0, none⟩) 0 1 2 (w5.alloc (.cells #[.int .i64 0, .int .i64 1, .int .i64 2] 3)) (ri_blk (HA2.out.alloc _) (by decide)) (ri_blk (Blk.new _ _ _) (by decide)))
  go_wp2_with (go_at_call 12; (with_reducible refine Calls.mono R1.out ?_); rintro e w6 ⟨rfl, hb⟩)
  have HB6 := Lib.hid ((HB5.out.alloc HB5.out.size (.cells #[.int .i64 0, .int .i64 1, .int .i64 2] 3)).trans (hb.mono (by have := HB5.out.size; simp; omega)))
  have HE6 := Lib.hid ((HE2.out.alloc (.cells #[.int .i64 0, .int .i64 1, .int .i64 2] 3)).keeps hb)
  have HL6 := Lib.hid ((HL5.out.below ((Below.refl _ _).alloc (Nat.le_refl _) (.cells #[.int .i64 0, .int .i64 1, .int .i64 2] 3))).below hb)
  clear hb R1 HB5 HE2 HL5 HA2
  have R2 := Lib.hid (same3 (some ⟨b2, 0, none⟩) (some ⟨w6.heap.size, 0, none⟩) 0 (-1) (-1) (w6.alloc (.cells #[.int .i64 0, .int .i64 (-1), .int .i64 (-1)] 3)) (ri_blk (HE6.out.alloc _) (by decide)) (ri_blk (Blk.new _ _ _) (by decide)))
  go_wp2_with (go_at_call 12; (with_reducible refine Calls.mono R2.out ?_); rintro e w7 ⟨rfl, hb⟩)
  have HB7 := Lib.hid ((HB6.out.alloc HB6.out.size (.cells #[.int .i64 0, .int .i64 (-1), .int .i64 (-1)] 3)).trans (hb.mono (by have := HB6.out.size; simp; omega)))
  have CN := Lib.hid (show Calls Tryd.prog 23 #[.pointer (some ⟨p, 0, none⟩), .int .i64 1] w7 fun e w' => e = .returned (.int .u64 5) ∧ w7 = w' from near_any (some ⟨p, 0, none⟩) [2, 5, 2] 1 w7 (.inr ⟨p, g, rfl, (HL6.out.below ((Below.refl _ _).alloc (Nat.le_refl _) (.cells #[.int .i64 0, .int .i64 (-1), .int .i64 (-1)] 3))).below hb⟩))
  clear hb R2 HB6 HE6 HL6
  go_wp2_with (go_at_call 23; (with_reducible refine Calls.mono CN.out ?_); rintro e w8 ⟨rfl, rfl⟩)
  go_ret
  exact ⟨rfl, HB7.out⟩
end Go.Proofs.YtfmkamkbbeahgaaDoor.La
