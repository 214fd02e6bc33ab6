/- Proves: the law TimerSplits's function answers true at every input, and changes nothing that was there. -/
import Derived.Test.YtmheabnpkbhadaaLw
import Derived.Test.YtmheabnpkbhadaaLf
import Derived.Test.YtmheabnpkbhadaaSq
namespace Go.Proofs.Ytmheabnpkbhadaa.TimerSplitsW
open Go.RowKit Go.Proofs.Ytmheabnpkbhadaa.Sq Go.Proofs.Ytmheabnpkbhadaa.Bk Go.Proofs.Ytmheabnpkbhadaa.Kp Go.Proofs.Ytmheabnpkbhadaa.Rw Go.Proofs.Ytmheabnpkbhadaa.Ow Go.Proofs.Ytmheabnpkbhadaa.In Go.Proofs.Ytmheabnpkbhadaa.Tp Go.Proofs.Ytmheabnpkbhadaa.Tl Go.Proofs.Ytmheabnpkbhadaa.Tq Go.Proofs.Ytmheabnpkbhadaa.Is Go.Proofs.Ytmheabnpkbhadaa.Se Go.Proofs.Ytmheabnpkbhadaa.Du Go.Proofs.Ytmheabnpkbhadaa.Al Go.Proofs.Ytmheabnpkbhadaa.Lw
set_option maxRecDepth 100000 in
set_option maxHeartbeats 4000000 in
theorem walk (a0 : Option Addr) (len0 cap0 : Nat) (z0 : List Int) (a1 : Int) (a2 : Int) (W : World) (w0 : Lf.IsRow .i64 W a0 len0 cap0 z0) (y0 : len0 * 8 ≤ 140737488351232) (w1 : (Lit.int .i64 a1).wf = true) (w2 : (Lit.int .i64 a2).wf = true) :
    Calls Try.prog 4 #[.slice a0 len0 cap0, .int .i64 a1, .int .i64 a2] W fun e w' => e = .returned (.bool true) ∧ Below W.heap.size W w' := by
  have CA := Lib.hid (alive_ok W)
  obtain ⟨la, rfl, _, _, hRa, hwa⟩ := row_ints w0
  have HRa := Lib.hid hRa
  clear w0 hRa hwa y0
  obtain ⟨N, hN⟩ : ∃ N, la.length = N := ⟨_, rfl⟩
  rw [hN]
  by_cases h1 : 16 < N
  · have h2 : (16 : Int) < (N : Int) := by omega
    go_enter Try.func4, Try.ntmps4
    go_wp2_with (go_at_call 7; (with_reducible refine Calls.mono CA.out ?_); rintro e w1 ⟨rfl, hb1⟩; have HB1 := Lib.hid hb1; clear hb1 CA)
    go_ret
    exact ⟨rfl, HB1.out⟩
  have h2 : ¬ (16 : Int) < (N : Int) := by omega
  by_cases h3 : a2 < a1
  ·
    go_enter Try.func4, Try.ntmps4
    go_wp2_with (go_at_call 7; (with_reducible refine Calls.mono CA.out ?_); rintro e w1 ⟨rfl, hb1⟩; have HB1 := Lib.hid hb1; clear hb1 CA)
    go_ret
    exact ⟨rfl, HB1.out⟩
  have HLE := Lib.hid (show a1 ≤ a2 by omega)
  go_enter Try.func4, Try.ntmps4
  go_wp2_with (go_at_call 7; (with_reducible refine Calls.mono CA.out ?_); rintro e w1 ⟨rfl, hb1⟩; have HB1 := Lib.hid hb1; have HS := Lib.hid (R2.new W w1 hb1); have hge := hb1.size; clear hb1 CA)
  have HRl := Lib.hid (HRa.out.below (((HB1.out.alloc HB1.out.size (.cells #[.slice none 0 0] 26))).alloc (by simp; omega) (.cells #[.slice none 0 0] 26)))
  generalize hA : w1.heap.size = A at HS ⊢
  generalize (w1.alloc (.cells #[.slice none 0 0] 26)).alloc (.cells #[.slice none 0 0] 26) = w2 at HS HRl ⊢
  clear hA HB1 hge
  go_loopw [26] (fun s26 wr => ∃ k qa qb, Aside (k ≤ N ∧ s26 = .int .i64 (k : Nat) ∧ R2 W wr A qa (bl la k) (A + 1) qb (bl la k))) (fun s26 _ => N - (intOf s26).toNat)
  case atStart => exact ⟨0, A, A + 1, Nat.zero_le _, rfl, HS.out⟩
  case round =>
    obtain ⟨k, qa, qb, hX⟩ := hrel
    obtain ⟨hk, rfl, hS⟩ := hX.out
    have HSr := Lib.hid hS
    clear hX hS HS HRl
    by_cases hlt : k < N
    · have n1 : (k : Int) < (N : Int) := by omega
      obtain ⟨ad, rfl, hadlt, hc⟩ := HRa.out.at_ (show k < la.length by omega)
      have c0 : wr.cell? (ad.add k) = some (.int .i64 (la.getD k 0)) := (HSr.out.bel.cell (by rw [block_of_add]; exact hadlt)).trans hc
      obtain ⟨t, ht⟩ : ∃ t, la.getD k 0 = t := ⟨_, rfl⟩
      rw [ht] at c0
      have HT := Lib.hid ht
      clear ht hc
      go_wp2_with (first
        | (go_at_call 8
           (with_reducible refine Calls.mono (HSr.out.set_ (bl_ok la k) t k) ?_)
           rintro e w3 ⟨rfl, qa', hS3⟩
           have HS3 := Lib.hid hS3.turn
           clear hS3 HSr)
        | (go_at_call 8
           (with_reducible refine Calls.mono (HS3.out.set_ (bl_ok la k) t k) ?_)
           rintro e w4 ⟨rfl, qb', hS4⟩
           have HS4 := Lib.hid hS4.turn
           clear hS4 HS3))
      go_roundw
      case rel => exact ⟨k + 1, qa', qb', by omega, by go_num, by rw [bl, HT.out]; exact HS4.out⟩
      case measure => simp [intOf]; omega
    · have hk : k = N := by omega
      subst hk
      have HDL := Lib.hid (due_left HLE.out (bl la k))
      have hok := bl_ok la k
      have hA := HSr.out.a.ltr
      have hB := HSr.out.b.ltr
      have hqa := HSr.out.a.ltq
      have hqb := HSr.out.b.ltq
      have hd := dues_length (bl la k) a2
      have h16 := hok.len
      generalize bl la k = L at HSr HDL hok hd h16
      have HOK := Lib.hid hok
      clear hok
      go_wp2_with (first
        | (go_at_call 9
           (with_reducible refine Calls.mono (HSr.out.due_ HOK.out a1) ?_)
           rintro e w5 ⟨⟨v1, rfl, ho1⟩, hS5, hk5⟩
           have HO1 := Lib.hid ho1
           have HS5 := Lib.hid hS5
           have hs5 := hk5.size
           clear ho1 hS5 hk5 HSr)
        | (go_at_call 9
           (with_reducible refine Calls.mono (HS5.out.due_ (ok_left HOK.out a1) a2) ?_)
           rintro e w6 ⟨⟨v2, rfl, ho2⟩, hS6, hk6⟩
           have HO6 := Lib.hid (oi_kp HO1.out hk6 (fun q hq e => by have := (HO1.out.owner q hq).1; omega))
           obtain ⟨AR, cR, rfl, _, hri⟩ := ho2.ri
           have HRI := Lib.hid hri
           have HS6 := Lib.hid hS6
           have hs6 := hk6.size
           clear ho2 hS6 hk6 HO1 HS5 hri)
        | (at_builtin; refine wp_append .i64 3 _ wr.heap.size (.int .i64 0) 8 rfl _ _ 22 rfl Try.underlying22 (by kernel_rfl) rfl _ _ _ _ _ _ rfl rfl rfl HO6.out HRI.out ?_ ?_ ?_ ?_))
      · have e := congrArg List.length HDL.out.1
        rw [List.length_append] at e
        unfold maxLen
        omega
      · have e := congrArg List.length HDL.out.1
        rw [List.length_append] at e
        omega
      · omega
      intro v' w' ho hg hown
      rw [HDL.out.1] at ho
      have HS7 := Lib.hid ((HS6.out.grown HO6.out hg hA hqa hB hqb).turn)
      have HO7 := Lib.hid ho
      have hg7 := hg.size
      clear ho hg hown HO6 HRI HS6
      go_wp2_with (first
        | (go_at_call 9
           (with_reducible refine Calls.mono (HS7.out.due_ HOK.out a2) ?_)
           rintro e w8 ⟨⟨v3, rfl, ho3⟩, hS8, hk8⟩
           obtain ⟨AX, cX, rfl, _, hriX⟩ := (oi_kp HO7.out hk8 (fun q hq e => by have := (HO7.out.owner q hq).1; omega)).ri
           obtain ⟨AY, cY, rfl, _, hriY⟩ := ho3.ri
           have hS8 := hS8.turn
           rw [HDL.out.2] at hS8
           have HS8 := Lib.hid hS8
           have HX := Lib.hid hriX
           have HY := Lib.hid hriY
           clear hS8 hk8 ho3 hriX hriY HS7 HO7)
        | (go_at_call 10
           (with_reducible refine Calls.mono (len_ok _ _ _ _ HS8.out.a) ?_)
           rintro e w9 ⟨rfl, rfl⟩)
        | (go_at_call 10
           (with_reducible refine Calls.mono (len_ok _ _ _ _ HS8.out.b) ?_)
           rintro e w9 ⟨rfl, rfl⟩))
      clear HDL hA hB hqa hqb hs5 hs6 hg7 HOK
      generalize dues L a2 = D at HX HY hd ⊢
      obtain ⟨M, hM⟩ : ∃ M, D.length = M := ⟨_, rfl⟩
      have hM16 : M ≤ 16 := by omega
      rw [hM]
      have HBL := Lib.hid HS8.out.bel
      clear HS8
      go_loopw [57] (fun ss wr => ∃ j, Aside (j ≤ M ∧ ss = .int .i64 (j : Nat) ∧ Ri .i64 wr AX D ∧ Ri .i64 wr AY D ∧ Below W.heap.size W wr)) (fun ss _ => M - (intOf ss).toNat)
      case atStart => exact ⟨0, Nat.zero_le _, rfl, HX.out, HY.out, HBL.out⟩
      case round =>
        obtain ⟨j, hj, rfl, hx, hy, hb⟩ := hrel
        have HXr := Lib.hid hx
        have HYr := Lib.hid hy
        have HBr := Lib.hid hb
        clear hx hy hb HX HY HBL
        by_cases hltj : j < M
        · have n1 : (j : Int) < (M : Int) := by omega
          obtain ⟨ad, rfl, _, hc1⟩ := HXr.out.drew.at_ (show j < D.length by omega)
          obtain ⟨ae, rfl, _, hc2⟩ := HYr.out.drew.at_ (show j < D.length by omega)
          obtain ⟨d, hd⟩ : ∃ d, D.getD j 0 = d := ⟨_, rfl⟩
          rw [hd] at hc1 hc2
          clear hd
          go_wp2
          go_region
          go_wp2
          go_roundw
          case rel => exact ⟨j + 1, by omega, by go_num, HXr.out.drew, HYr.out.drew, HBr.out.drew⟩
          case measure => simp [intOf]; omega
        · go_wp2
          go_ret
          exact ⟨rfl, HBr.out⟩
end Go.Proofs.Ytmheabnpkbhadaa.TimerSplitsW
