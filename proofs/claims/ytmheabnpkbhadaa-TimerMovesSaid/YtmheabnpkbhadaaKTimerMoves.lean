/- Proves: the law TimerMoves's function answers true at every input, and changes nothing that was there. -/
import Derived.Test.YtmheabnpkbhadaaLw
import Derived.Test.YtmheabnpkbhadaaLf
import Derived.Test.YtmheabnpkbhadaaSq
namespace Go.Proofs.Ytmheabnpkbhadaa.TimerMovesW
open Go.RowKit Go.Proofs.Ytmheabnpkbhadaa.Sq Go.Proofs.Ytmheabnpkbhadaa.Bk Go.Proofs.Ytmheabnpkbhadaa.Kp Go.Proofs.Ytmheabnpkbhadaa.Rw Go.Proofs.Ytmheabnpkbhadaa.Ow Go.Proofs.Ytmheabnpkbhadaa.In Go.Proofs.Ytmheabnpkbhadaa.Tp Go.Proofs.Ytmheabnpkbhadaa.Tl Go.Proofs.Ytmheabnpkbhadaa.Tq Go.Proofs.Ytmheabnpkbhadaa.Is Go.Proofs.Ytmheabnpkbhadaa.Se Go.Proofs.Ytmheabnpkbhadaa.Du Go.Proofs.Ytmheabnpkbhadaa.Al Go.Proofs.Ytmheabnpkbhadaa.Lw
theorem dues_all : ∀ {l : List One} {now : Int}, (∀ x ∈ l, x.1 ≤ now) → dues l now = l.map (·.2)
  | [], _, _ => rfl
  | x :: l, now, h => by
    rw [dues_cons, if_pos (h x (by simp)), dues_all fun y hy => h y (by simp [hy])]
    rfl
set_option maxRecDepth 100000 in
set_option maxHeartbeats 4000000 in
theorem walk (a0 : Option Addr) (len0 cap0 : Nat) (z0 : List Int) (a1 : Int) (a2 : Int) (W : World) (w0 : Lf.IsRow .i64 W a0 len0 cap0 z0) (y0 : len0 * 8 ≤ 140737488351232) (w1 : (Lit.int .i64 a1).wf = true) (w2 : (Lit.int .i64 a2).wf = true) :
    Calls Try.prog 5 #[.slice a0 len0 cap0, .int .i64 a1, .int .i64 a2] W fun e w' => e = .returned (.bool true) ∧ Below W.heap.size W w' := by
  have CA := Lib.hid (alive_ok W)
  obtain ⟨la, rfl, _, _, hRa, hwa⟩ := row_ints w0
  have HRa := Lib.hid hRa
  have HWF := Lib.hid hwa
  have HWT := Lib.hid w2
  clear w0 hRa hwa y0
  obtain ⟨N, hN⟩ : ∃ N, la.length = N := ⟨_, rfl⟩
  rw [hN]
  by_cases h1 : 16 < N
  · have h2 : (16 : Int) < (N : Int) := by omega
    go_enter Try.func5, Try.ntmps5
    go_wp2_with (go_at_call 7; (with_reducible refine Calls.mono CA.out ?_); rintro e w1 ⟨rfl, hb1⟩; have HB1 := Lib.hid hb1; clear hb1 CA)
    go_ret
    exact ⟨rfl, HB1.out⟩
  have h2 : ¬ (16 : Int) < (N : Int) := by omega
  by_cases h3 : a1 < 0
  ·
    go_enter Try.func5, Try.ntmps5
    go_wp2_with (go_at_call 7; (with_reducible refine Calls.mono CA.out ?_); rintro e w1 ⟨rfl, hb1⟩; have HB1 := Lib.hid hb1; clear hb1 CA)
    go_ret
    exact ⟨rfl, HB1.out⟩
  by_cases h4 : (N : Int) ≤ a1
  ·
    go_enter Try.func5, Try.ntmps5
    go_wp2_with (go_at_call 7; (with_reducible refine Calls.mono CA.out ?_); rintro e w1 ⟨rfl, hb1⟩; have HB1 := Lib.hid hb1; clear hb1 CA)
    go_ret
    exact ⟨rfl, HB1.out⟩
  have h5 : a1 < (N : Int) := by omega
  obtain ⟨m1, m2, m3, m4⟩ := moves la a1 a2 N (by omega) (by omega) h5
  have M1 := Lib.hid m1
  have M2 := Lib.hid m2
  have M3 := Lib.hid m3
  have M4 := Lib.hid m4
  have hDA : dues (put (bl la N) a2 a1) 9223372036854775807 = (put (bl la N) a2 a1).map (·.2) := dues_all fun x hx => by
    rcases mem_put hx with rfl | hx
    · have := HWT.out
      simp [Lit.wf, IntKind.min, IntKind.max, IntKind.bits, IntKind.signed] at this
      show a2 ≤ _
      omega
    · obtain ⟨i, hi, rfl⟩ := bl_mem la N x hx
      have := HWF.out (la.getD i 0) (by rw [List.getD_eq_getElem?_getD, List.getElem?_eq_getElem (by omega)]; exact List.getElem_mem _)
      show la.getD i 0 ≤ _
      generalize la.getD i 0 = x at this ⊢
      simp [Lit.wf, IntKind.min, IntKind.max, IntKind.bits, IntKind.signed] at this
      omega
  have HDL := Lib.hid (show (dues (put (bl la N) a2 a1) 9223372036854775807).length = N by rw [hDA, List.length_map, m4])
  clear m1 m2 m3 m4 hDA w2 w1
  go_enter Try.func5, Try.ntmps5
  go_wp2_with (go_at_call 7; (with_reducible refine Calls.mono CA.out ?_); rintro e w1 ⟨rfl, hb1⟩; have HB1 := Lib.hid hb1; have HS := Lib.hid (R2.new W w1 hb1); have hge := hb1.size; clear hb1 CA)
  generalize hA : w1.heap.size = A at HS ⊢
  generalize (w1.alloc (.cells #[.slice none 0 0] 26)).alloc (.cells #[.slice none 0 0] 26) = w2 at HS ⊢
  clear hA HB1 hge
  go_loopw [31] (fun s31 wr => ∃ k qa qb, Aside (k ≤ N ∧ s31 = .int .i64 (k : Nat) ∧ R2 W wr A qa (bl la k) (A + 1) qb (bs la a1 k))) (fun s31 _ => N - (intOf s31).toNat)
  case atStart => exact ⟨0, A, A + 1, Nat.zero_le _, rfl, HS.out⟩
  case round =>
    obtain ⟨k, qa, qb, hX⟩ := hrel
    obtain ⟨hk, rfl, hS⟩ := hX.out
    have HSr := Lib.hid hS
    clear hX hS HS
    by_cases hlt : k < N
    · have n1 : (k : Int) < (N : Int) := by omega
      obtain ⟨ad, rfl, hadlt, hc⟩ := HRa.out.at_ (show k < la.length by omega)
      have c0 : wr.cell? (ad.add k) = some (.int .i64 (la.getD k 0)) := (HSr.out.bel.cell (by rw [block_of_add]; exact hadlt)).trans hc
      obtain ⟨t, ht⟩ : ∃ t, la.getD k 0 = t := ⟨_, rfl⟩
      rw [ht] at c0
      have HT := Lib.hid ht
      clear ht hc
      by_cases hks : (k : Int) = a1
      · have hne : ((k : Int) != a1) = false := by rw [hks]; simp
        have HKS := Lib.hid hks
        clear hks
        go_wp2_with (go_at_call 8; (with_reducible refine Calls.mono (HSr.out.set_ (bl_ok la k) t k) ?_); rintro e w3 ⟨rfl, qa', hS3⟩; have HS3 := Lib.hid hS3; clear hS3 HSr)
        go_roundw
        case rel => exact ⟨k + 1, qa', qb, by omega, by go_num, by rw [bl, bs, HT.out, if_pos HKS.out]; exact HS3.out⟩
        case measure => simp [intOf]; omega
      · have hne : ((k : Int) != a1) = true := bne_iff_ne.mpr hks
        have HKS := Lib.hid hks
        clear hks
        go_wp2_with (first
          | (go_at_call 8
             (with_reducible refine Calls.mono (HSr.out.set_ (bl_ok la k) t k) ?_)
             rintro e w3 ⟨rfl, qa', hS3⟩
             have HS3 := Lib.hid hS3.turn
             clear hS3 HSr)
          | (go_at_call 8
             (with_reducible refine Calls.mono (HS3.out.set_ (bs_ok la a1 k) t k) ?_)
             rintro e w4 ⟨rfl, qb', hS4⟩
             have HS4 := Lib.hid hS4.turn
             clear hS4 HS3))
        go_roundw
        case rel => exact ⟨k + 1, qa', qb', by omega, by go_num, by rw [bl, bs, HT.out, if_neg HKS.out]; exact HS4.out⟩
        case measure => simp [intOf]; omega
    · have hk : k = N := by omega
      subst hk
      go_wp2_with (first
        | (go_at_call 8
           (with_reducible refine Calls.mono (HSr.out.set_ (bl_ok la k) a2 a1) ?_)
           rintro e w3 ⟨rfl, qa', hS3⟩
           have HS3 := Lib.hid hS3.turn
           rw [M2.out]
           clear hS3 HSr)
        | (go_at_call 8
           (with_reducible refine Calls.mono (HS3.out.set_ (bs_ok la a1 k) a2 a1) ?_)
           rintro e w4 ⟨rfl, qb', hS4⟩
           have hS4 := hS4.turn
           rw [← M1.out] at hS4
           have hok := ok_put (bl_ok la k) a2 a1
           have hd := dues_length (put (bl la k) a2 a1) 9223372036854775807
           have HML := Lib.hid M4.out
           have HDL2 := Lib.hid HDL.out
           rw [M3.out]
           generalize put (bl la k) a2 a1 = L at hS4 hok hd HML HDL2
           have HOK := Lib.hid hok
           have HD := Lib.hid hd
           have hA := hS4.a.ltr
           have hB := hS4.b.ltr
           have hqa := hS4.a.ltq
           have hqb := hS4.b.ltq
           have HS4 := Lib.hid hS4
           clear hS4 HS3 hok hd M1 M2 M3 M4 HDL)
        | (go_at_call 10
           (with_reducible refine Calls.mono (len_ok _ _ _ _ HS4.out.a) ?_)
           rintro e w9 ⟨rfl, rfl⟩
           rw [HML.out])
        | (go_at_call 9
           (with_reducible refine Calls.mono (HS4.out.due_ HOK.out 9223372036854775807) ?_)
           rintro e w5 ⟨⟨v1, rfl, ho1⟩, hS5, hk5⟩
           have HO1 := Lib.hid ho1
           have HS5 := Lib.hid hS5.turn
           have hs5 := hk5.size
           clear ho1 hS5 hk5 HS4)
        | (go_at_call 9
           (with_reducible refine Calls.mono (HS5.out.due_ HOK.out 9223372036854775807) ?_)
           rintro e w6 ⟨⟨v2, rfl, ho2⟩, hS6, hk6⟩
           obtain ⟨AX, cX, rfl, _, hriX⟩ := (oi_kp HO1.out hk6 (fun q hq e => by have := (HO1.out.owner q hq).1; omega)).ri
           obtain ⟨AY, cY, rfl, _, hriY⟩ := ho2.ri
           have HX := Lib.hid hriX
           have HY := Lib.hid hriY
           have HBL := Lib.hid hS6.bel
           rw [HDL2.out]
           clear hS6 hk6 ho2 hriX hriY HS5 HO1))
      have HDL3 := Lib.hid HDL2.out
      generalize dues L 9223372036854775807 = D at HX HY HDL3 ⊢
      have hM16 : k ≤ 16 := by omega
      have hM := HDL3.out
      clear hA hB hqa hqb
      go_loopw [78] (fun ss wr => ∃ j, Aside (j ≤ k ∧ ss = .int .i64 (j : Nat) ∧ Ri .i64 wr AX D ∧ Ri .i64 wr AY D ∧ Below W.heap.size W wr)) (fun ss _ => k - (intOf ss).toNat)
      case atStart => exact ⟨0, Nat.zero_le _, rfl, HX.out, HY.out, HBL.out⟩
      case round =>
        obtain ⟨j, hj, rfl, hx, hy, hb⟩ := hrel
        have HXr := Lib.hid hx
        have HYr := Lib.hid hy
        have HBr := Lib.hid hb
        clear hx hy hb HX HY HBL
        by_cases hltj : j < k
        · have n1 : (j : Int) < (k : Int) := by omega
          obtain ⟨ad, rfl, _, hc1⟩ := HXr.out.drew.at_ (show j < D.length by omega)
          obtain ⟨ae, rfl, _, hc2⟩ := HYr.out.drew.at_ (show j < D.length by omega)
          obtain ⟨d, hd⟩ : ∃ d, D.getD j 0 = d := ⟨_, rfl⟩
          rw [hd] at hc1 hc2
          clear hd
          go_wp2
          go_region
          go_wp2
          go_roundw
          case rel => exact ⟨j + 1, by omega, by go_num, HXr.out.drew, HYr.out.drew, HBr.out.drew⟩
          case measure => simp [intOf]; omega
        · go_wp2
          go_ret
          exact ⟨rfl, HBr.out⟩
end Go.Proofs.Ytmheabnpkbhadaa.TimerMovesW
