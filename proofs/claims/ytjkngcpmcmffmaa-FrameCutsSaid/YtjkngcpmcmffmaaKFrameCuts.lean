/- Proves: the law FrameCuts's function answers true at every input, and changes nothing that was there. -/
import Derived.Test.YtjkngcpmcmffmaaAl
import Derived.Test.YtjkngcpmcmffmaaIn
import Derived.Test.YtjkngcpmcmffmaaSq2
namespace Go.Proofs.Ytjkngcpmcmffmaa.FrameCutsW
open Go.RowKit Go.Proofs.Ytjkngcpmcmffmaa.Bk Go.Proofs.Ytjkngcpmcmffmaa.Rw Go.Proofs.Ytjkngcpmcmffmaa.Ow Go.Proofs.Ytjkngcpmcmffmaa.Kp Go.Proofs.Ytjkngcpmcmffmaa.Sq Go.Proofs.Ytjkngcpmcmffmaa.Octet Go.Proofs.Ytjkngcpmcmffmaa.Fr Go.Proofs.Ytjkngcpmcmffmaa.Pn Go.Proofs.Ytjkngcpmcmffmaa.Crc Go.Proofs.Ytjkngcpmcmffmaa.Cr Go.Proofs.Ytjkngcpmcmffmaa.Gn Go.Proofs.Ytjkngcpmcmffmaa.Kd Go.Proofs.Ytjkngcpmcmffmaa.Dc Go.Proofs.Ytjkngcpmcmffmaa.De Go.Proofs.Ytjkngcpmcmffmaa.Pl Go.Proofs.Ytjkngcpmcmffmaa.Al
theorem de_form {l : List Int} (h64 : l.length ≤ 64) (h : l.length = 0 ∨ ¬ (1 ≤ dk l ∧ dk l ≤ 6) ∨ (l.length : Int) ≠ tot (dk l) + 3) : de l = 3 ∧ dv l = .nilIface := by
  have e : de l = 3 := by unfold de; rw [if_neg (by omega), if_pos h]
  exact ⟨e, by unfold dv; rw [e]; rfl⟩
theorem de_long {l : List Int} (h64 : 64 < l.length) : de l = 5 ∧ dv l = .nilIface := by
  have e : de l = 5 := by unfold de; rw [if_pos h64]
  exact ⟨e, by unfold dv; rw [e]; rfl⟩
/-- What was decoded has another length than its own beginnings, and than what begins with it. -/
theorem cut_take {L : List Int} (h : de L = 0) {k : Nat} (hk : k < L.length) : de (L.take k) = 3 ∧ dv (L.take k) = .nilIface := by
  obtain ⟨h1, h2, h3, h4, _⟩ := de_zero h
  refine de_form (by rw [List.length_take]; omega) ?_
  by_cases h0 : k = 0
  · left; simp [h0]
  · right; right
    have hd : dk (L.take k) = dk L := by
      unfold dk
      rw [List.getD_eq_getElem?_getD, List.getElem?_take_of_lt (by omega), ← List.getD_eq_getElem?_getD]
    rw [hd, List.length_take]
    omega
theorem cut_app {L m : List Int} (h : de L = 0) (hm : 0 < m.length) : (64 < (L ++ m).length → de (L ++ m) = 5 ∧ dv (L ++ m) = .nilIface) ∧ (¬ 64 < (L ++ m).length → de (L ++ m) = 3 ∧ dv (L ++ m) = .nilIface) := by
  obtain ⟨h1, h2, h3, h4, _⟩ := de_zero h
  refine ⟨de_long, fun h64 => de_form (by omega) (.inr (.inr ?_))⟩
  have hd : dk (L ++ m) = dk L := by
    unfold dk
    rw [List.getD_eq_getElem?_getD, List.getElem?_append_left h2, ← List.getD_eq_getElem?_getD]
  rw [hd, List.length_append]
  omega
set_option maxRecDepth 100000 in
set_option maxHeartbeats 4000000 in
theorem core (p : Pl) (hp : Oks p) (n : Int) (A : Option Addr) (c : Nat) (m : List Int) (W : World) (hR : Ri .u8 W A m) (hm : Bytes m) :
    Calls Try.prog 7 #[p.v, .int .i64 n, .slice A m.length c] W fun e w' => e = .returned (.bool true) ∧ Below W.heap.size W w' := by
  have CA := Lib.hid (alive_ok (W.alloc (.cells p.cs 31)))
  have CO := Lib.hid (of_ok p)
  have CE := Lib.hid (enc_ok p hp)
  have HX := Lib.hid (Blk.new W 31 p.cs)
  have HB0 := Lib.hid ((Below.refl W.heap.size W).alloc (Nat.le_refl _) (.cells p.cs 31))
  have HLB := Lib.hid (eb_bytes p)
  have hL := eb_length p
  have HEZ := Lib.hid (ee_zero (p := p))
  have HRD := Lib.hid (fun h => eb_round (p := p) h)
  obtain ⟨FV, hFV⟩ : ∃ FV, ofv p = FV := ⟨_, rfl⟩
  obtain ⟨L, hLe⟩ : ∃ L, eb p = L := ⟨_, rfl⟩
  obtain ⟨E, hE⟩ : ∃ E, ee p = E := ⟨_, rfl⟩
  rw [hFV] at CO CE
  rw [hLe, hE] at CE
  rw [hE] at HEZ
  rw [hLe] at HLB hL HRD
  have HL := Lib.hid hLe
  have HP := Lib.hid hp
  clear hFV hLe hE hp
  have HRm := Lib.hid hR
  have HMB := Lib.hid hm
  clear hR hm
  obtain ⟨kind, from_, to_, root, boot, seq, hops, time, level, sent, got, back, glob, tai⟩ := p
  simp only [Pl.v, Pl.cs] at *
  by_cases hE : E ≠ 0
  · have q0 : (E != 0) = true := bne_iff_ne.mpr hE
    go_enter Try.func7, Try.ntmps7
    go_wp2_with (first
      | (go_at_call 9
         (with_reducible refine Calls.mono CA.out ?_)
         rintro e w1 ⟨rfl, hb1⟩
         obtain ⟨c0, c1, c2, c3, c4, c5, c6, c7, c8, c9, c10, c11, c12, c13⟩ := reads14 (HX.out.keeps hb1)
         have HX1 := Lib.hid (HX.out.keeps hb1)
         have HB1 := Lib.hid (HB0.out.trans (hb1.mono HB0.out.size))
         clear hb1 CA)
      | (go_at_call 14
         (with_reducible refine Calls.mono (CO.out _) ?_)
         rintro e w2 ⟨rfl, hb2⟩
         have HX2 := Lib.hid (HX1.out.keeps hb2)
         have HB2 := Lib.hid (HB1.out.trans (hb2.mono HB1.out.size))
         clear hb2)
      | (go_at_call 13
         (with_reducible refine Calls.mono (CE.out _) ?_)
         rintro e w3 ⟨⟨v3, rfl, ho3⟩, hb3⟩
         have HX3 := Lib.hid (HX2.out.keeps hb3)
         have HB3 := Lib.hid (HB2.out.trans (hb3.mono HB2.out.size))
         have HO3 := Lib.hid (ho3.lower HB2.out.size)
         obtain ⟨A3, d3, rfl, hc3, hr3⟩ := ho3.ri
         have HR3 := Lib.hid hr3
         have HC3 := Lib.hid hc3
         clear ho3 hb3 hr3)
      )
    go_ret
    exact ⟨rfl, HB3.out⟩
  replace hE : E = 0 := Classical.not_not.1 hE
  have HDZ := Lib.hid (HRD.out (HEZ.out.1 hE)).1
  subst hE
  by_cases hn : n < 0
  ·
    go_enter Try.func7, Try.ntmps7
    go_wp2_with (first
      | (go_at_call 9
         (with_reducible refine Calls.mono CA.out ?_)
         rintro e w1 ⟨rfl, hb1⟩
         obtain ⟨c0, c1, c2, c3, c4, c5, c6, c7, c8, c9, c10, c11, c12, c13⟩ := reads14 (HX.out.keeps hb1)
         have HX1 := Lib.hid (HX.out.keeps hb1)
         have HB1 := Lib.hid (HB0.out.trans (hb1.mono HB0.out.size))
         clear hb1 CA)
      | (go_at_call 14
         (with_reducible refine Calls.mono (CO.out _) ?_)
         rintro e w2 ⟨rfl, hb2⟩
         have HX2 := Lib.hid (HX1.out.keeps hb2)
         have HB2 := Lib.hid (HB1.out.trans (hb2.mono HB1.out.size))
         clear hb2)
      | (go_at_call 13
         (with_reducible refine Calls.mono (CE.out _) ?_)
         rintro e w3 ⟨⟨v3, rfl, ho3⟩, hb3⟩
         have HX3 := Lib.hid (HX2.out.keeps hb3)
         have HB3 := Lib.hid (HB2.out.trans (hb3.mono HB2.out.size))
         have HO3 := Lib.hid (ho3.lower HB2.out.size)
         obtain ⟨A3, d3, rfl, hc3, hr3⟩ := ho3.ri
         have HR3 := Lib.hid hr3
         have HC3 := Lib.hid hc3
         clear ho3 hb3 hr3)
      )
    go_ret
    exact ⟨rfl, HB3.out⟩
  by_cases hn2 : (L.length : Int) ≤ n
  ·
    go_enter Try.func7, Try.ntmps7
    go_wp2_with (first
      | (go_at_call 9
         (with_reducible refine Calls.mono CA.out ?_)
         rintro e w1 ⟨rfl, hb1⟩
         obtain ⟨c0, c1, c2, c3, c4, c5, c6, c7, c8, c9, c10, c11, c12, c13⟩ := reads14 (HX.out.keeps hb1)
         have HX1 := Lib.hid (HX.out.keeps hb1)
         have HB1 := Lib.hid (HB0.out.trans (hb1.mono HB0.out.size))
         clear hb1 CA)
      | (go_at_call 14
         (with_reducible refine Calls.mono (CO.out _) ?_)
         rintro e w2 ⟨rfl, hb2⟩
         have HX2 := Lib.hid (HX1.out.keeps hb2)
         have HB2 := Lib.hid (HB1.out.trans (hb2.mono HB1.out.size))
         clear hb2)
      | (go_at_call 13
         (with_reducible refine Calls.mono (CE.out _) ?_)
         rintro e w3 ⟨⟨v3, rfl, ho3⟩, hb3⟩
         have HX3 := Lib.hid (HX2.out.keeps hb3)
         have HB3 := Lib.hid (HB2.out.trans (hb3.mono HB2.out.size))
         have HO3 := Lib.hid (ho3.lower HB2.out.size)
         obtain ⟨A3, d3, rfl, hc3, hr3⟩ := ho3.ri
         have HR3 := Lib.hid hr3
         have HC3 := Lib.hid hc3
         clear ho3 hb3 hr3)
      )
    go_ret
    exact ⟨rfl, HB3.out⟩
  by_cases hm1 : (60 : Int) < (m.length : Int)
  ·
    go_enter Try.func7, Try.ntmps7
    go_wp2_with (first
      | (go_at_call 9
         (with_reducible refine Calls.mono CA.out ?_)
         rintro e w1 ⟨rfl, hb1⟩
         obtain ⟨c0, c1, c2, c3, c4, c5, c6, c7, c8, c9, c10, c11, c12, c13⟩ := reads14 (HX.out.keeps hb1)
         have HX1 := Lib.hid (HX.out.keeps hb1)
         have HB1 := Lib.hid (HB0.out.trans (hb1.mono HB0.out.size))
         clear hb1 CA)
      | (go_at_call 14
         (with_reducible refine Calls.mono (CO.out _) ?_)
         rintro e w2 ⟨rfl, hb2⟩
         have HX2 := Lib.hid (HX1.out.keeps hb2)
         have HB2 := Lib.hid (HB1.out.trans (hb2.mono HB1.out.size))
         clear hb2)
      | (go_at_call 13
         (with_reducible refine Calls.mono (CE.out _) ?_)
         rintro e w3 ⟨⟨v3, rfl, ho3⟩, hb3⟩
         have HX3 := Lib.hid (HX2.out.keeps hb3)
         have HB3 := Lib.hid (HB2.out.trans (hb3.mono HB2.out.size))
         have HO3 := Lib.hid (ho3.lower HB2.out.size)
         obtain ⟨A3, d3, rfl, hc3, hr3⟩ := ho3.ri
         have HR3 := Lib.hid hr3
         have HC3 := Lib.hid hc3
         clear ho3 hb3 hr3)
      )
    go_ret
    exact ⟨rfl, HB3.out⟩
  by_cases hm2 : (m.length : Int) = 0
  · have q0 : ((m.length : Int) == 0) = true := by simpa using hm2
    go_enter Try.func7, Try.ntmps7
    go_wp2_with (first
      | (go_at_call 9
         (with_reducible refine Calls.mono CA.out ?_)
         rintro e w1 ⟨rfl, hb1⟩
         obtain ⟨c0, c1, c2, c3, c4, c5, c6, c7, c8, c9, c10, c11, c12, c13⟩ := reads14 (HX.out.keeps hb1)
         have HX1 := Lib.hid (HX.out.keeps hb1)
         have HB1 := Lib.hid (HB0.out.trans (hb1.mono HB0.out.size))
         clear hb1 CA)
      | (go_at_call 14
         (with_reducible refine Calls.mono (CO.out _) ?_)
         rintro e w2 ⟨rfl, hb2⟩
         have HX2 := Lib.hid (HX1.out.keeps hb2)
         have HB2 := Lib.hid (HB1.out.trans (hb2.mono HB1.out.size))
         clear hb2)
      | (go_at_call 13
         (with_reducible refine Calls.mono (CE.out _) ?_)
         rintro e w3 ⟨⟨v3, rfl, ho3⟩, hb3⟩
         have HX3 := Lib.hid (HX2.out.keeps hb3)
         have HB3 := Lib.hid (HB2.out.trans (hb3.mono HB2.out.size))
         have HO3 := Lib.hid (ho3.lower HB2.out.size)
         obtain ⟨A3, d3, rfl, hc3, hr3⟩ := ho3.ri
         have HR3 := Lib.hid hr3
         have HC3 := Lib.hid hc3
         clear ho3 hb3 hr3)
      )
    go_ret
    exact ⟨rfl, HB3.out⟩
  have q0 : ((m.length : Int) == 0) = false := by simpa using hm2
  obtain ⟨k, rfl⟩ := Int.eq_ofNat_of_zero_le (show 0 ≤ n by omega)
  have hk : k < L.length := by omega
  have hk2 : (k : Int) ≤ (L.length : Int) := by omega
  have hm60 : m.length ≤ 60 := by omega
  have T1 := Lib.hid (cut_take HDZ.out hk)
  have T2 := Lib.hid (cut_app HDZ.out (m := m) (by omega))
  have CD := Lib.hid (show ∀ (A : Option Addr) (c : Nat) (w : World), Ri .u8 w A L → L.length ≤ c → Calls Try.prog 10 #[.slice A k c] w fun e w' => e = .returned (.tuple #[.nilIface, .int .i64 3]) ∧ Below w.heap.size w w' from fun A c w hr hc => by
    have h := decode_ok A c (L.take k) (HLB.out.take k) (by rw [List.length_take]; omega) (by rw [List.length_take]; omega) w (hr.take k)
    rw [T1.out.1, T1.out.2, List.length_take, Nat.min_eq_left (by omega)] at h
    exact h)
  go_enter Try.func7, Try.ntmps7
  go_wp2_with (first
    | (go_at_call 9
       (with_reducible refine Calls.mono CA.out ?_)
       rintro e w1 ⟨rfl, hb1⟩
       obtain ⟨c0, c1, c2, c3, c4, c5, c6, c7, c8, c9, c10, c11, c12, c13⟩ := reads14 (HX.out.keeps hb1)
       have HX1 := Lib.hid (HX.out.keeps hb1)
       have HB1 := Lib.hid (HB0.out.trans (hb1.mono HB0.out.size))
       clear hb1 CA)
    | (go_at_call 14
       (with_reducible refine Calls.mono (CO.out _) ?_)
       rintro e w2 ⟨rfl, hb2⟩
       have HX2 := Lib.hid (HX1.out.keeps hb2)
       have HB2 := Lib.hid (HB1.out.trans (hb2.mono HB1.out.size))
       clear hb2)
    | (go_at_call 13
       (with_reducible refine Calls.mono (CE.out _) ?_)
       rintro e w3 ⟨⟨v3, rfl, ho3⟩, hb3⟩
       have HX3 := Lib.hid (HX2.out.keeps hb3)
       have HB3 := Lib.hid (HB2.out.trans (hb3.mono HB2.out.size))
       have HO3 := Lib.hid (ho3.lower HB2.out.size)
       obtain ⟨A3, d3, rfl, hc3, hr3⟩ := ho3.ri
       have HR3 := Lib.hid hr3
       have HC3 := Lib.hid hc3
       clear ho3 hb3 hr3)
    | (go_at_call 10
       (with_reducible refine Calls.mono (CD.out _ _ _ HR3.out HC3.out) ?_)
       rintro e w4 ⟨rfl, hb4⟩
       have HB4 := Lib.hid (HB3.out.trans (hb4.mono HB3.out.size))
       have HR4 := Lib.hid (HR3.out.below hb4)
       have HRm4 := Lib.hid (HRm.out.below HB4.out)
       have hs4 := HB4.out.size
       clear hb4 CD)
    | (at_builtin; refine wp_append .u8 5 _ W.heap.size (.int .u8 0) 1 rfl _ _ 22 rfl Try.underlying22 (by kernel_rfl) rfl (.slice (some ⟨w4.heap.size, 0, none⟩) 0 0) [] _ _ L _ rfl rfl rfl (Oi.lit .u8 5 w4 W.heap.size HB4.out.size [] (by unfold maxLen; simp) #[] rfl) (HR4.out.alloc _) ?_ ?_ ?_ ?_))
  · unfold maxLen; simp; omega
  · simp; omega
  · simp; omega
  intro v5 w5 ho hg _
  have HB5 := Lib.hid (Below.of_owned (v := .slice (some ⟨w4.heap.size, 0, none⟩) 0 0) (HB4.out.alloc HB4.out.size _) (by have := HB4.out.size; simp; omega) hg (fun q hq => by simp [Value.ownBlock] at hq; subst hq; exact HB4.out.size))
  have HO5 := Lib.hid ho
  have HRm5 := Lib.hid (HRm.out.below HB5.out)
  clear ho hg HR4 HRm4
  go_wp2_with (at_builtin; refine wp_append .u8 5 _ W.heap.size (.int .u8 0) 1 rfl _ _ 22 rfl Try.underlying22 (by kernel_rfl) rfl v5 L _ _ m _ rfl rfl rfl HO5.out HRm5.out ?_ ?_ ?_ ?_)
  · unfold maxLen; omega
  · omega
  · exact HB5.out.size
  intro v6 w6 ho hg _
  have HB6 := Lib.hid (Below.of_owned HB5.out HB5.out.size hg (fun q hq => (HO5.out.owner q hq).1))
  obtain ⟨M, hM⟩ : ∃ M, L ++ m = M := ⟨_, rfl⟩
  have hML : M.length ≤ 103 := by rw [← hM, List.length_append]; omega
  have HMB2 := Lib.hid (show Bytes M from hM ▸ HLB.out.app HMB.out)
  rw [hM] at ho T2
  obtain ⟨A6, c6, rfl, hc6, hr6⟩ := ho.ri
  have CD6 := Lib.hid (decode_ok A6 c6 M HMB2.out (by omega) hc6 w6 hr6)
  clear ho hg hM HB5 HO5 HRm5 hr6
  by_cases h64 : 64 < M.length
  · have q1 : (64 : Int) < (M.length : Int) := by omega
    rw [(T2.out.1 h64).1, (T2.out.1 h64).2] at CD6
    go_wp2_with (go_at_call 10; (with_reducible refine Calls.mono CD6.out ?_); rintro e w7 ⟨rfl, hb7⟩; have HB7 := Lib.hid (HB6.out.trans (hb7.mono HB6.out.size)); clear hb7)
    go_ret
    exact ⟨rfl, HB7.out⟩
  · have q1 : (M.length : Int) ≤ (64 : Int) := by omega
    rw [(T2.out.2 h64).1, (T2.out.2 h64).2] at CD6
    go_wp2_with (go_at_call 10; (with_reducible refine Calls.mono CD6.out ?_); rintro e w7 ⟨rfl, hb7⟩; have HB7 := Lib.hid (HB6.out.trans (hb7.mono HB6.out.size)); clear hb7)
    go_ret
    exact ⟨rfl, HB7.out⟩
set_option linter.unusedVariables false in
theorem walk (a0_0 : Int) (a0_1 : Int) (a0_2 : Int) (a0_3 : Int) (a0_4 : Int) (a0_5 : Int) (a0_6 : Int) (a0_7 : Int) (a0_8 : Int) (a0_9 : Int) (a0_10 : Int) (a0_11 : Int) (a0_12 : Int) (a0_13 : Int) (a1 : Int) (a2 : Option Addr) (len2 cap2 : Nat) (z2 : List Int) (W : World) (w0_0 : (Lit.int .i64 a0_0).wf = true) (w0_1 : (Lit.int .i64 a0_1).wf = true) (w0_2 : (Lit.int .i64 a0_2).wf = true) (w0_3 : (Lit.int .i64 a0_3).wf = true) (w0_4 : (Lit.int .u16 a0_4).wf = true) (w0_5 : (Lit.int .u16 a0_5).wf = true) (w0_6 : (Lit.int .i64 a0_6).wf = true) (w0_7 : (Lit.int .i64 a0_7).wf = true) (w0_8 : (Lit.int .i64 a0_8).wf = true) (w0_9 : (Lit.int .i64 a0_9).wf = true) (w0_10 : (Lit.int .i64 a0_10).wf = true) (w0_11 : (Lit.int .i64 a0_11).wf = true) (w0_12 : (Lit.int .i64 a0_12).wf = true) (w0_13 : (Lit.int .i64 a0_13).wf = true) (w1 : (Lit.int .i64 a1).wf = true) (w2 : Lf.IsRow .u8 W a2 len2 cap2 z2) (y2 : len2 * 1 ≤ 140737488351232) :
    Calls Try.prog 7 #[.agg #[.int .i64 a0_0, .int .i64 a0_1, .int .i64 a0_2, .int .i64 a0_3, .int .u16 a0_4, .int .u16 a0_5, .int .i64 a0_6, .int .i64 a0_7, .int .i64 a0_8, .int .i64 a0_9, .int .i64 a0_10, .int .i64 a0_11, .int .i64 a0_12, .int .i64 a0_13], .int .i64 a1, .slice a2 len2 cap2] W fun e w' => e = .returned (.bool true) ∧ Below W.heap.size W w' := by
  obtain ⟨m, rfl, hmc, hcm, hr, hmb⟩ := In.row_bytes w2
  exact core ⟨a0_0, a0_1, a0_2, a0_3, a0_4, a0_5, a0_6, a0_7, a0_8, a0_9, a0_10, a0_11, a0_12, a0_13⟩ (oks_wf w0_4 w0_5) a1 a2 cap2 m W hr hmb
end Go.Proofs.Ytjkngcpmcmffmaa.FrameCutsW
