/- Proves: the law FrameTurned's function answers true at every input, and changes nothing that was there. -/
import Derived.Test.YtjkngcpmcmffmaaAl
import Derived.Test.YtjkngcpmcmffmaaTu
import Derived.Test.YtjkngcpmcmffmaaSq2
namespace Go.Proofs.Ytjkngcpmcmffmaa.FrameTurnedW
open Go.RowKit Go.Proofs.Ytjkngcpmcmffmaa.Bk Go.Proofs.Ytjkngcpmcmffmaa.Rw Go.Proofs.Ytjkngcpmcmffmaa.Ow Go.Proofs.Ytjkngcpmcmffmaa.Kp Go.Proofs.Ytjkngcpmcmffmaa.Sq Go.Proofs.Ytjkngcpmcmffmaa.Octet Go.Proofs.Ytjkngcpmcmffmaa.Fr Go.Proofs.Ytjkngcpmcmffmaa.Pn Go.Proofs.Ytjkngcpmcmffmaa.Crc Go.Proofs.Ytjkngcpmcmffmaa.Cr Go.Proofs.Ytjkngcpmcmffmaa.Gn Go.Proofs.Ytjkngcpmcmffmaa.Kd Go.Proofs.Ytjkngcpmcmffmaa.Dc Go.Proofs.Ytjkngcpmcmffmaa.De Go.Proofs.Ytjkngcpmcmffmaa.Pl Go.Proofs.Ytjkngcpmcmffmaa.Al Go.Proofs.Ytjkngcpmcmffmaa.Tu
/-- A wrong sum is never decoded. -/
theorem de_wrong {l : List Int} (h64 : l.length ≤ 64) (hg : goes 65535 l ≠ 0) : (de l = 3 ∨ de l = 4) ∧ dv l = .nilIface := by
  have e : de l = 3 ∨ de l = 4 := by
    unfold de
    rw [if_neg (by omega)]
    split
    · exact .inl rfl
    · exact .inr rfl
  refine ⟨e, ?_⟩
  unfold dv
  rw [if_neg (by omega)]
set_option maxRecDepth 100000 in
set_option maxHeartbeats 4000000 in
theorem core (p : Pl) (hp : Oks p) (a : Int) (ha : -9223372036854775808 ≤ a ∧ a ≤ 9223372036854775807) (z : Int) (hz : 0 ≤ z ∧ z ≤ 65535) (W : World) :
    Calls Try.prog 5 #[p.v, .int .i64 a, .int .u16 z] W fun e w' => e = .returned (.bool true) ∧ Below W.heap.size W w' := by
  have CA := Lib.hid (alive_ok (W.alloc (.cells p.cs 31)))
  have CO := Lib.hid (of_ok p)
  have CE := Lib.hid (enc_ok p hp)
  have HX := Lib.hid (Blk.new W 31 p.cs)
  have HB0 := Lib.hid ((Below.refl W.heap.size W).alloc (Nat.le_refl _) (.cells p.cs 31))
  have HLB := Lib.hid (eb_bytes p)
  have hL := eb_length p
  have HEZ := Lib.hid (ee_zero (p := p))
  have HRD := Lib.hid (fun h => eb_round (p := p) h)
  obtain ⟨FV, hFV⟩ : ∃ FV, ofv p = FV := ⟨_, rfl⟩
  obtain ⟨L, hLe⟩ : ∃ L, eb p = L := ⟨_, rfl⟩
  obtain ⟨E, hE⟩ : ∃ E, ee p = E := ⟨_, rfl⟩
  rw [hFV] at CO CE
  rw [hLe, hE] at CE
  rw [hE] at HEZ
  rw [hLe] at HLB hL HRD
  have HL := Lib.hid hLe
  have HP := Lib.hid hp
  clear hFV hLe hE hp
  obtain ⟨kind, from_, to_, root, boot, seq, hops, time, level, sent, got, back, glob, tai⟩ := p
  simp only [Pl.v, Pl.cs] at *
  by_cases hE : E ≠ 0
  ·
    have q0 : (E != 0) = true := bne_iff_ne.mpr hE
    go_enter Try.func5, Try.ntmps5
    go_wp2_with (first
      | (go_at_call 9
         (with_reducible refine Calls.mono CA.out ?_)
         rintro e w1 ⟨rfl, hb1⟩
         obtain ⟨c0, c1, c2, c3, c4, c5, c6, c7, c8, c9, c10, c11, c12, c13⟩ := reads14 (HX.out.keeps hb1)
         have HX1 := Lib.hid (HX.out.keeps hb1)
         have HB1 := Lib.hid (HB0.out.trans (hb1.mono HB0.out.size))
         clear hb1 CA)
      | (go_at_call 14
         (with_reducible refine Calls.mono (CO.out _) ?_)
         rintro e w2 ⟨rfl, hb2⟩
         have HX2 := Lib.hid (HX1.out.keeps hb2)
         have HB2 := Lib.hid (HB1.out.trans (hb2.mono HB1.out.size))
         clear hb2)
      | (go_at_call 13
         (with_reducible refine Calls.mono (CE.out _) ?_)
         rintro e w3 ⟨⟨v3, rfl, ho3⟩, hb3⟩
         have HX3 := Lib.hid (HX2.out.keeps hb3)
         have HB3 := Lib.hid (HB2.out.trans (hb3.mono HB2.out.size))
         have HO3 := Lib.hid (ho3.lower HB2.out.size)
         obtain ⟨A3, d3, rfl, hc3, hr3⟩ := ho3.ri
         have HR3 := Lib.hid hr3
         have HC3 := Lib.hid hc3
         clear ho3 hb3 hr3)
      )
    go_ret
    exact ⟨rfl, HB3.out⟩
  replace hE : E = 0 := Classical.not_not.1 hE
  have HDZ := Lib.hid (HRD.out (HEZ.out.1 hE)).1
  subst hE
  by_cases hz0 : z = 0
  ·
    subst hz0
    go_enter Try.func5, Try.ntmps5
    go_wp2_with (first
      | (go_at_call 9
         (with_reducible refine Calls.mono CA.out ?_)
         rintro e w1 ⟨rfl, hb1⟩
         obtain ⟨c0, c1, c2, c3, c4, c5, c6, c7, c8, c9, c10, c11, c12, c13⟩ := reads14 (HX.out.keeps hb1)
         have HX1 := Lib.hid (HX.out.keeps hb1)
         have HB1 := Lib.hid (HB0.out.trans (hb1.mono HB0.out.size))
         clear hb1 CA)
      | (go_at_call 14
         (with_reducible refine Calls.mono (CO.out _) ?_)
         rintro e w2 ⟨rfl, hb2⟩
         have HX2 := Lib.hid (HX1.out.keeps hb2)
         have HB2 := Lib.hid (HB1.out.trans (hb2.mono HB1.out.size))
         clear hb2)
      | (go_at_call 13
         (with_reducible refine Calls.mono (CE.out _) ?_)
         rintro e w3 ⟨⟨v3, rfl, ho3⟩, hb3⟩
         have HX3 := Lib.hid (HX2.out.keeps hb3)
         have HB3 := Lib.hid (HB2.out.trans (hb3.mono HB2.out.size))
         have HO3 := Lib.hid (ho3.lower HB2.out.size)
         obtain ⟨A3, d3, rfl, hc3, hr3⟩ := ho3.ri
         have HR3 := Lib.hid hr3
         have HC3 := Lib.hid hc3
         clear ho3 hb3 hr3)
      )
    go_ret
    exact ⟨rfl, HB3.out⟩
  have hz' : (z == 0) = false := by simpa using hz0
  by_cases hp0 : a < 0
  ·
    go_enter Try.func5, Try.ntmps5
    go_wp2_with (first
      | (go_at_call 9
         (with_reducible refine Calls.mono CA.out ?_)
         rintro e w1 ⟨rfl, hb1⟩
         obtain ⟨c0, c1, c2, c3, c4, c5, c6, c7, c8, c9, c10, c11, c12, c13⟩ := reads14 (HX.out.keeps hb1)
         have HX1 := Lib.hid (HX.out.keeps hb1)
         have HB1 := Lib.hid (HB0.out.trans (hb1.mono HB0.out.size))
         clear hb1 CA)
      | (go_at_call 14
         (with_reducible refine Calls.mono (CO.out _) ?_)
         rintro e w2 ⟨rfl, hb2⟩
         have HX2 := Lib.hid (HX1.out.keeps hb2)
         have HB2 := Lib.hid (HB1.out.trans (hb2.mono HB1.out.size))
         clear hb2)
      | (go_at_call 13
         (with_reducible refine Calls.mono (CE.out _) ?_)
         rintro e w3 ⟨⟨v3, rfl, ho3⟩, hb3⟩
         have HX3 := Lib.hid (HX2.out.keeps hb3)
         have HB3 := Lib.hid (HB2.out.trans (hb3.mono HB2.out.size))
         have HO3 := Lib.hid (ho3.lower HB2.out.size)
         obtain ⟨A3, d3, rfl, hc3, hr3⟩ := ho3.ri
         have HR3 := Lib.hid hr3
         have HC3 := Lib.hid hc3
         clear ho3 hb3 hr3)
      )
    go_ret
    exact ⟨rfl, HB3.out⟩
  have hlen : 4 ≤ L.length := by
    obtain ⟨_, _, h3, h4, _⟩ := de_zero HDZ.out
    have := tot_le h3
    omega
  have m1 : IntKind.i64.wrap ((L.length : Int) - 2) = (L.length : Int) - 2 := by rw [IntKind.wrap_i64]; omega
  have m2 : IntKind.i64.wrap (8 * ((L.length : Int) - 2)) = 8 * ((L.length : Int) - 2) := by rw [IntKind.wrap_i64]; omega
  by_cases hp1 : 8 * ((L.length : Int) - 2) < a
  ·
    go_enter Try.func5, Try.ntmps5
    go_wp2_with (first
      | (go_at_call 9
         (with_reducible refine Calls.mono CA.out ?_)
         rintro e w1 ⟨rfl, hb1⟩
         obtain ⟨c0, c1, c2, c3, c4, c5, c6, c7, c8, c9, c10, c11, c12, c13⟩ := reads14 (HX.out.keeps hb1)
         have HX1 := Lib.hid (HX.out.keeps hb1)
         have HB1 := Lib.hid (HB0.out.trans (hb1.mono HB0.out.size))
         clear hb1 CA)
      | (go_at_call 14
         (with_reducible refine Calls.mono (CO.out _) ?_)
         rintro e w2 ⟨rfl, hb2⟩
         have HX2 := Lib.hid (HX1.out.keeps hb2)
         have HB2 := Lib.hid (HB1.out.trans (hb2.mono HB1.out.size))
         clear hb2)
      | (go_at_call 13
         (with_reducible refine Calls.mono (CE.out _) ?_)
         rintro e w3 ⟨⟨v3, rfl, ho3⟩, hb3⟩
         have HX3 := Lib.hid (HX2.out.keeps hb3)
         have HB3 := Lib.hid (HB2.out.trans (hb3.mono HB2.out.size))
         have HO3 := Lib.hid (ho3.lower HB2.out.size)
         obtain ⟨A3, d3, rfl, hc3, hr3⟩ := ho3.ri
         have HR3 := Lib.hid hr3
         have HC3 := Lib.hid hc3
         clear ho3 hb3 hr3)
      )
    go_ret
    exact ⟨rfl, HB3.out⟩
  obtain ⟨i, rfl⟩ := Int.eq_ofNat_of_zero_le (show 0 ≤ a by omega)
  obtain ⟨b, rfl⟩ := Int.eq_ofNat_of_zero_le hz.1
  have hS0 := (de_zero HDZ.out).2.2.2.2.1
  have HZ := Lib.hid hS0
  clear hS0
  go_enter Try.func5, Try.ntmps5
  go_wp2_with (first
    | (go_at_call 9
       (with_reducible refine Calls.mono CA.out ?_)
       rintro e w1 ⟨rfl, hb1⟩
       obtain ⟨c0, c1, c2, c3, c4, c5, c6, c7, c8, c9, c10, c11, c12, c13⟩ := reads14 (HX.out.keeps hb1)
       have HX1 := Lib.hid (HX.out.keeps hb1)
       have HB1 := Lib.hid (HB0.out.trans (hb1.mono HB0.out.size))
       clear hb1 CA)
    | (go_at_call 14
       (with_reducible refine Calls.mono (CO.out _) ?_)
       rintro e w2 ⟨rfl, hb2⟩
       have HX2 := Lib.hid (HX1.out.keeps hb2)
       have HB2 := Lib.hid (HB1.out.trans (hb2.mono HB1.out.size))
       clear hb2)
    | (go_at_call 13
       (with_reducible refine Calls.mono (CE.out _) ?_)
       rintro e w3 ⟨⟨v3, rfl, ho3⟩, hb3⟩
       have HX3 := Lib.hid (HX2.out.keeps hb3)
       have HB3 := Lib.hid (HB2.out.trans (hb3.mono HB2.out.size))
       have HO3 := Lib.hid (ho3.lower HB2.out.size)
       obtain ⟨A3, d3, rfl, hc3, hr3⟩ := ho3.ri
       have HR3 := Lib.hid hr3
       have HC3 := Lib.hid hc3
       clear ho3 hb3 hr3)
    )
  clear hc3
  obtain ⟨h1, h2⟩ | ⟨g, c, hv, hgb, _, hgc, _⟩ := HO3.out.form
  · rw [h2] at hlen; simp at hlen
  injection hv with h1 _ h3
  subst h1 h3
  obtain ⟨N, hN⟩ : ∃ N, L.length = N := ⟨_, rfl⟩
  rw [hN] at HO3 hlen hL hgc m1 m2 hp1 ⊢
  have HN := Lib.hid hN
  clear hN HR3 HC3 HX3 HX2 HX1 HB1 HB2 HX
  go_loopw [9] (fun x wr => ∃ (k : Nat) (cur : List Int), Aside (k ≤ 16 ∧ x = .int .i64 k ∧ Turns L cur i b k ∧ Oi .u8 5 wr W.heap.size (.slice (some ⟨g, 0, none⟩) N d3) cur ∧ Below W.heap.size W wr)) (fun x _ => 16 - (intOf x).toNat)
  case atStart => exact ⟨0, L, by omega, rfl, Turns.start HLB.out i b, HO3.out, HB3.out⟩
  case round =>
    obtain ⟨k, cur, hX⟩ := hrel
    obtain ⟨hk, rfl, ht, ho3, hb3⟩ := hX.out
    have HT := Lib.hid ht
    have HO4 := Lib.hid ho3
    have HW4 := Lib.hid hb3
    clear ht ho3 hb3 HO3 HB3 hX
    by_cases hlt : k < 16
    · have hb16 : b < 65536 := by omega
      cases hbit : b.testBit (15 - k) with
      | false =>
        have hc : (Go.bits .and .u16 ((b : Int) / 2 ^ (15 - k)) 1 == 1) = false := by rw [and1 b k hb16, hbit]; rfl
        have HB := Lib.hid hbit
        clear hbit
        go_wp2
        go_roundw
        case rel => exact ⟨k + 1, cur, by omega, by go_num, HT.out.no HB.out, HO4.out, HW4.out⟩
        case measure => simp [intOf]; omega
      | true =>
        have hc : (Go.bits .and .u16 ((b : Int) / 2 ^ (15 - k)) 1 == 1) = true := by rw [and1 b k hb16, hbit]; rfl
        have HB := Lib.hid hbit
        clear hbit
        have hcl : cur.length = N := HT.out.len.trans HN.out
        have cg : wr.cell? ⟨g, (i + k) / 8, none⟩ = some (.int .u8 (cur.getD ((i + k) / 8) 0)) ∧ wr.frozen? ⟨g, (i + k) / 8, none⟩ = false := by
          obtain ⟨h1, h2⟩ | ⟨g', c', he, _, _, _, _, hcell, hfr⟩ := HO4.out.form
          · cases h1
          · injection he with h1 _ _
            injection h1 with h1
            injection h1 with h1 _ _
            subst h1
            exact ⟨hcell _ _ (by rw [List.getD_eq_getElem?_getD, List.getElem?_eq_getElem (by omega)]; rfl), hfr _⟩
        obtain ⟨cg, fg⟩ := cg
        have HC := Lib.hid hcl
        generalize hu : cur.getD ((i + k) / 8) 0 = u at cg
        have HU := Lib.hid hu
        clear hu hcl
        go_wp2
        have hst := (HO4.out.set_ ((i + k) / 8) (Go.bits .xor .u8 u (128 / 2 ^ ((i + k) % 8)))).1
        have hfl : cur.set ((i + k) / 8) (Go.bits .xor .u8 u (128 / 2 ^ ((i + k) % 8))) = Tu.flip cur (i + k) := by
          unfold Tu.flip
          rw [HU.out, one_bit]
        rw [hfl] at hst
        go_roundw
        case rel => exact ⟨k + 1, Tu.flip cur (i + k), by omega, by go_num, HT.out.yes HB.out (by have := HN.out; omega), hst, HW4.out.setCell (p := ⟨g, (i + k) / 8, none⟩) hgb _⟩
        case measure => simp [intOf]; omega
    · have hk16 : k = 16 := by omega
      subst hk16
      have hne := HT.out.unlike (by have := HN.out; omega) (show b ≠ 0 by omega) (by omega) 65535
      rw [HZ.out] at hne
      have hcl : cur.length = N := HT.out.len.trans HN.out
      obtain ⟨A, c', he, hcc, hr⟩ := HO4.out.ri
      injection he with e3 e4 e5
      subst e3 e5
      obtain ⟨hde, hdv⟩ := de_wrong (l := cur) (by omega) (Ne.symm hne)
      have CD := Lib.hid (decode_ok (some ⟨g, 0, none⟩) d3 cur HT.out.bytes (by omega) hcc wr hr)
      have CS := Lib.hid (fun (w : World) (h : Ri .u8 w (some ⟨g, 0, none⟩) cur) => refsum_ok (some ⟨g, 0, none⟩) d3 cur HT.out.bytes w h)
      have HR := Lib.hid hr
      rw [hcl, hdv] at CD
      rw [hcl] at CS
      have q5 : (goes 65535 cur != 0) = true := bne_iff_ne.mpr (Ne.symm hne)
      generalize goes 65535 cur = SU at CS q5 hne
      generalize de cur = EE at CD hde
      clear hne hcl hcc hr hdv e4
      rcases hde with rfl | rfl
      · go_wp2_with (first
          | (go_at_call 10; (with_reducible refine Calls.mono CD.out ?_); rintro e w5 ⟨rfl, hb5⟩; have HB5 := Lib.hid (HW4.out.trans (hb5.mono HW4.out.size)); have HR5 := Lib.hid (HR.out.below hb5); clear hb5)
          | (go_at_call 16; (with_reducible refine Calls.mono (CS.out _ HR5.out) ?_); rintro e w6 ⟨rfl, rfl⟩))
        go_ret
        exact ⟨rfl, HB5.out⟩
      · go_wp2_with (first
          | (go_at_call 10; (with_reducible refine Calls.mono CD.out ?_); rintro e w5 ⟨rfl, hb5⟩; have HB5 := Lib.hid (HW4.out.trans (hb5.mono HW4.out.size)); have HR5 := Lib.hid (HR.out.below hb5); clear hb5)
          | (go_at_call 16; (with_reducible refine Calls.mono (CS.out _ HR5.out) ?_); rintro e w6 ⟨rfl, rfl⟩))
        go_ret
        exact ⟨rfl, HB5.out⟩
set_option linter.unusedVariables false in
theorem walk (a0_0 : Int) (a0_1 : Int) (a0_2 : Int) (a0_3 : Int) (a0_4 : Int) (a0_5 : Int) (a0_6 : Int) (a0_7 : Int) (a0_8 : Int) (a0_9 : Int) (a0_10 : Int) (a0_11 : Int) (a0_12 : Int) (a0_13 : Int) (a1 : Int) (a2 : Int) (W : World) (w0_0 : (Lit.int .i64 a0_0).wf = true) (w0_1 : (Lit.int .i64 a0_1).wf = true) (w0_2 : (Lit.int .i64 a0_2).wf = true) (w0_3 : (Lit.int .i64 a0_3).wf = true) (w0_4 : (Lit.int .u16 a0_4).wf = true) (w0_5 : (Lit.int .u16 a0_5).wf = true) (w0_6 : (Lit.int .i64 a0_6).wf = true) (w0_7 : (Lit.int .i64 a0_7).wf = true) (w0_8 : (Lit.int .i64 a0_8).wf = true) (w0_9 : (Lit.int .i64 a0_9).wf = true) (w0_10 : (Lit.int .i64 a0_10).wf = true) (w0_11 : (Lit.int .i64 a0_11).wf = true) (w0_12 : (Lit.int .i64 a0_12).wf = true) (w0_13 : (Lit.int .i64 a0_13).wf = true) (w1 : (Lit.int .i64 a1).wf = true) (w2 : (Lit.int .u16 a2).wf = true) :
    Calls Try.prog 5 #[.agg #[.int .i64 a0_0, .int .i64 a0_1, .int .i64 a0_2, .int .i64 a0_3, .int .u16 a0_4, .int .u16 a0_5, .int .i64 a0_6, .int .i64 a0_7, .int .i64 a0_8, .int .i64 a0_9, .int .i64 a0_10, .int .i64 a0_11, .int .i64 a0_12, .int .i64 a0_13], .int .i64 a1, .int .u16 a2] W fun e w' => e = .returned (.bool true) ∧ Below W.heap.size W w' := by
  have h2 : 0 ≤ a2 ∧ a2 ≤ 65535 := by
    simp [Lit.wf, IntKind.min, IntKind.max, IntKind.bits, IntKind.signed] at w2
    omega
  have h3 : -9223372036854775808 ≤ a1 ∧ a1 ≤ 9223372036854775807 := by
    simp [Lit.wf, IntKind.min, IntKind.max, IntKind.bits, IntKind.signed] at w1
    omega
  exact core ⟨a0_0, a0_1, a0_2, a0_3, a0_4, a0_5, a0_6, a0_7, a0_8, a0_9, a0_10, a0_11, a0_12, a0_13⟩ (oks_wf w0_4 w0_5) a1 h3 a2 h2 W
end Go.Proofs.Ytjkngcpmcmffmaa.FrameTurnedW
