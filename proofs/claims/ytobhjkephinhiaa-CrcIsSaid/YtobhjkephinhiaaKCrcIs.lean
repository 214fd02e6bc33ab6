import Derived.Test.YtobhjkephinhiaaSeal
namespace Go.Proofs.Ytobhjkephinhiaa.CrcIsW
open Go.RowKit Go.Proofs.Ytobhjkephinhiaa.Crc Go.Proofs.Ytobhjkephinhiaa.Seal Go.Proofs.Ytobhjkephinhiaa.Ow Go.Proofs.Ytobhjkephinhiaa.Rw Go.Proofs.Ytobhjkephinhiaa.Bk Go.Proofs.YtobhjkephinhiaaW.PrintWords Go.Proofs.YtobhjkephinhiaaW.PrintLast

set_option maxHeartbeats 800000 in
set_option linter.unusedVariables false in
theorem walk (a0 : Option Addr) (len0 cap0 : Nat) (z0 : List Int) (a1 : Option Addr) (len1 cap1 : Nat) (z1 : List Int) (a2 : Int) (W : World) (w0 : Lf.IsRow .u8 W a0 len0 cap0 z0) (y0 : len0 * 1 ≤ 140737488351232) (w1 : Lf.IsRow .u8 W a1 len1 cap1 z1) (y1 : len1 * 1 ≤ 140737488351232) (w2 : (Lit.int .u16 a2).wf = true) :
    Calls Try.prog 3 #[.slice a0 len0 cap0, .slice a1 len1 cap1, .int .u16 a2] W fun e w' => e = .returned (.bool true) ∧ Below W.heap.size W w' := by
  obtain ⟨l, rfl, hc0, _, hr0, hb0⟩ := row_bytes w0
  obtain ⟨m, rfl, hc1, _, hr1, hb1⟩ := row_bytes w1
  have h2 : 0 ≤ a2 ∧ a2 ≤ 65535 := by
    simp [Lit.wf, IntKind.min, IntKind.max, IntKind.bits, IntKind.signed] at w2
    omega
  have R0 := Lib.hid hr0
  have R1 := Lib.hid hr1
  have B0 := Lib.hid hb0
  have B1 := Lib.hid hb1
  clear hr0 hr1 hb0 hb1 w0 w1 w2 y0 y1 z0 z1
  go_enter Try.func3, Try.ntmps3
  go_wp2_with fail
  refine (alive_ok _).mono ?_
  rintro e w1 ⟨rfl, hb⟩
  have HW := Lib.hid hb
  have R0' := Lib.hid (R0.out.below hb)
  have R1' := Lib.hid (R1.out.below hb)
  clear hb
  by_cases hl : l.length ≤ 4096
  · by_cases hm : m.length ≤ 4096
    · go_wp2_with (at_builtin; refine wp_append .u8 5 _ W.heap.size (.int .u8 0) 1 rfl _ _ 22 rfl Try.underlying22 (by kernel_rfl) rfl (.slice (some ⟨w1.heap.size, 0, none⟩) 0 0) [] _ _ l _ rfl rfl rfl (Oi.lit .u8 5 w1 W.heap.size HW.out.size [] (by simp) #[] rfl) (R0'.out.alloc _) ?_ ?_ ?_ ?_)
      · unfold maxLen; simp; omega
      · simp; omega
      · have := HW.out.size; simp; omega
      intro v2 w2 ho hg _
      have HW2 := Lib.hid (Below.of_owned (v := .slice (some ⟨w1.heap.size, 0, none⟩) 0 0) (HW.out.alloc HW.out.size _) (by have := HW.out.size; simp; omega) hg (fun q hq => by simp [Value.ownBlock] at hq; subst hq; exact HW.out.size))
      have HO2 := Lib.hid ho
      have R12 := Lib.hid (R1.out.below HW2.out)
      clear ho hg HW R0' R1'
      go_wp2_with (at_builtin; refine wp_append .u8 5 _ W.heap.size (.int .u8 0) 1 rfl _ _ 22 rfl Try.underlying22 (by kernel_rfl) rfl v2 l _ _ m _ rfl rfl rfl HO2.out R12.out ?_ ?_ ?_ ?_)
      · unfold maxLen; omega
      · omega
      · exact HW2.out.size
      intro v3 w3 ho hg _
      have HW3 := Lib.hid (Below.of_owned HW2.out HW2.out.size hg (fun q hq => (HO2.out.owner q hq).1))
      obtain ⟨L, hL⟩ : ∃ L, L = l ++ m := ⟨_, rfl⟩
      rw [← hL] at ho
      have hLl : L.length ≤ 8192 := by rw [hL, List.length_append]; omega
      have hLg : goes (goes 65535 l) m = goes 65535 L := by rw [hL, goes_append]
      have BL := Lib.hid (show Bytes L by rw [hL]; exact B0.out.app B1.out)
      obtain ⟨A, c, rfl, hc, hr⟩ := ho.ri
      have RL := Lib.hid hr
      have R03 := Lib.hid (R0.out.below HW3.out)
      have R13 := Lib.hid (R1.out.below HW3.out)
      have HG := Lib.hid hLg
      have hbd := goes_bd 65535 l
      clear ho hg hr hL hLg HW2 HO2 R12
      go_wp2_with (first
        | (go_at_call 9; with_reducible refine Calls.mono (sum_ok a0 cap0 l _ ?_ hc0 B0.out ?_) ?_; (first | exact R03.out | exact Ri.drewN R03.out _); omega; rintro e w' ⟨rfl, n, rfl⟩)
        | (go_at_call 9; with_reducible refine Calls.mono (sum_ok A c L _ ?_ hc BL.out ?_) ?_; (first | exact RL.out | exact Ri.drewN RL.out _); omega; rintro e w' ⟨rfl, n, rfl⟩)
        | (go_at_call 10; (with_reducible refine Calls.mono (refsum_ok a0 cap0 l _ ?_ hc0 B0.out ?_) ?_; (first | exact R03.out | exact Ri.drewN R03.out _); omega; rintro e w' ⟨rfl, n, rfl⟩))
        | (go_at_call 11; with_reducible refine Calls.mono (goes_ok a2 a1 cap1 m _ h2 ?_ hc1 B1.out ?_) ?_; (first | exact R13.out | exact Ri.drewN R13.out _); omega; rintro e w' ⟨rfl, n, rfl⟩)
        | (go_at_call 11; with_reducible refine Calls.mono (goes_ok (goes 65535 l) a1 cap1 m _ hbd ?_ hc1 B1.out ?_) ?_; (first | exact R13.out | exact Ri.drewN R13.out _); omega; rintro e w' ⟨rfl, n, rfl⟩; rw [HG.out])
        | (go_at_call 12; with_reducible refine Calls.mono (refgoes_ok a2 a1 cap1 m _ h2 ?_ hc1 B1.out ?_) ?_; (first | exact R13.out | exact Ri.drewN R13.out _); omega; rintro e w' ⟨rfl, n, rfl⟩))
      go_ret
      exact ⟨rfl, below_drewN_ HW3.out _⟩
    · go_wp2_with fail
      go_ret
      exact ⟨rfl, HW.out⟩
  · go_wp2_with fail
    go_ret
    exact ⟨rfl, HW.out⟩
end Go.Proofs.Ytobhjkephinhiaa.CrcIsW
