/- Proves: the law FrameBack's function answers true at every input, and changes nothing that was there. -/
import Derived.Test.YtjkngcpmcmffmaaRe
namespace Go.Proofs.Ytjkngcpmcmffmaa.FrameBackW
open Go.RowKit Go.Proofs.Ytjkngcpmcmffmaa.Bk Go.Proofs.Ytjkngcpmcmffmaa.Rw Go.Proofs.Ytjkngcpmcmffmaa.Ow Go.Proofs.Ytjkngcpmcmffmaa.Kp Go.Proofs.Ytjkngcpmcmffmaa.Sq Go.Proofs.Ytjkngcpmcmffmaa.Octet Go.Proofs.Ytjkngcpmcmffmaa.Fr Go.Proofs.Ytjkngcpmcmffmaa.Pn Go.Proofs.Ytjkngcpmcmffmaa.Crc Go.Proofs.Ytjkngcpmcmffmaa.Cr Go.Proofs.Ytjkngcpmcmffmaa.Gn Go.Proofs.Ytjkngcpmcmffmaa.Kd Go.Proofs.Ytjkngcpmcmffmaa.Dc Go.Proofs.Ytjkngcpmcmffmaa.De Go.Proofs.Ytjkngcpmcmffmaa.Pl Go.Proofs.Ytjkngcpmcmffmaa.Al Go.Proofs.Ytjkngcpmcmffmaa.Rd Go.Proofs.Ytjkngcpmcmffmaa.Str Go.Proofs.Ytjkngcpmcmffmaa.Re
set_option maxRecDepth 100000 in
set_option maxHeartbeats 4000000 in
theorem core (p : Pl) (hp : Oks p) (A : Option Addr) (c : Nat) (b : List Int) (hcb : b.length ≤ c) (W : World) (hR : Ri .u8 W A b) (hm : Bytes b) :
    Calls Try.prog 4 #[p.v, .slice A b.length c] W fun e w' => e = .returned (.bool true) ∧ Below W.heap.size W w' := by
  have HRB := Lib.hid hR
  have HBB := Lib.hid hm
  clear hR hm
  have HG := guard31 .neq (onl p) (onl p)
  have HE := neq_pl (onl p) (onl p)
  rw [show (!decide (onl p = onl p)) = false by simp] at HE
  have CPO := Lib.hid (only_ok p)
  have CPP := Lib.hid (fun (h : inK p) => show ∀ w, Calls Try.prog 12 #[frm (kn p) (nums p (kn p))] w fun e w' => e = .returned (onl p).v ∧ Below w.heap.size w w' from by rw [show onl p = _ from if_pos h]; exact plain_ok (kn_in h) nums_length)
  have HGI := Lib.hid (fun (h : good p = true) => (good_in h).1)
  have CA := Lib.hid (alive_ok (W.alloc (.cells p.cs 31)))
  have CO := Lib.hid (of_ok p)
  have CE := Lib.hid (enc_ok p hp)
  have HX := Lib.hid (Blk.new W 31 p.cs)
  have HB0 := Lib.hid ((Below.refl W.heap.size W).alloc (Nat.le_refl _) (.cells p.cs 31))
  have HLB := Lib.hid (eb_bytes p)
  have hL := eb_length p
  have HEZ := Lib.hid (ee_zero (p := p))
  have HRD := Lib.hid (fun h => eb_round (p := p) h)
  obtain ⟨FV, hFV⟩ : ∃ FV, ofv p = FV := ⟨_, rfl⟩
  obtain ⟨L, hLe⟩ : ∃ L, eb p = L := ⟨_, rfl⟩
  obtain ⟨E, hE⟩ : ∃ E, ee p = E := ⟨_, rfl⟩
  rw [hFV] at CO CE
  rw [hLe, hE] at CE
  rw [hE] at HEZ
  rw [hLe] at HLB hL HRD
  have HL := Lib.hid hLe
  have HP := Lib.hid hp
  clear hFV hLe hE hp
  generalize (onl p).v = OP at CPO HG HE CPP
  obtain ⟨kind, from_, to_, root, boot, seq, hops, time, level, sent, got, back_, glob, tai⟩ := p
  simp only [Pl.v, Pl.cs] at *
  by_cases hb200 : (200 : Int) < (b.length : Int)
  ·
    go_enter Try.func4, Try.ntmps4
    go_wp2_with (go_at_call 9; (with_reducible refine Calls.mono CA.out ?_); rintro e w1 ⟨rfl, hb1⟩; have HB1 := Lib.hid (HB0.out.trans (hb1.mono HB0.out.size)); clear hb1)
    go_ret
    exact ⟨rfl, HB1.out⟩
  by_cases hE : E ≠ 0
  · have q0 : (E == 0) = false := by simpa using hE
    clear hE HG HE
    go_enter Try.func4, Try.ntmps4
    go_wp2_with (first
      | (go_at_call 9
         (with_reducible refine Calls.mono CA.out ?_)
         rintro e w1 ⟨rfl, hb1⟩
         obtain ⟨c0, c1, c2, c3, c4, c5, c6, c7, c8, c9, c10, c11, c12, c13⟩ := reads14 (HX.out.keeps hb1)
         have HX1 := Lib.hid (HX.out.keeps hb1)
         have HB1 := Lib.hid (HB0.out.trans (hb1.mono HB0.out.size))
         clear hb1 CA)
      | (go_at_call 14
         (with_reducible refine Calls.mono (CO.out _) ?_)
         rintro e w2 ⟨rfl, hb2⟩
         have HX2 := Lib.hid (HX1.out.keeps hb2)
         have HB2 := Lib.hid (HB1.out.trans (hb2.mono HB1.out.size))
         clear hb2)
      | (go_at_call 13
         (with_reducible refine Calls.mono (CE.out _) ?_)
         rintro e w3 ⟨⟨v3, rfl, ho3⟩, hb3⟩
         have HX3 := Lib.hid (HX2.out.keeps hb3)
         have HB3 := Lib.hid (HB2.out.trans (hb3.mono HB2.out.size))
         have HO3 := Lib.hid (ho3.lower HB2.out.size)
         obtain ⟨A3, d3, rfl, hc3, hr3⟩ := ho3.ri
         have HR3 := Lib.hid hr3
         have HC3 := Lib.hid hc3
         clear ho3 hb3 hr3)
      | fail)
    clear hc3
    by_cases hdb : de b = 0
    · have hk := (de_zero hdb).2.2.1
      have KB := kn_of hk (nk_dn (l := b) hk)
      have hbk := back HBB.out hdb
      have CE2 := Lib.hid (encode_yes KB (de_zero hdb).2.2.2.2.2 (flds_most hk))
      rw [hbk] at CE2
      have CD2 := Lib.hid (fun (w : World) (h : Ri .u8 w A b) => decode_ok A c b HBB.out (by omega) hcb w h)
      rw [show dv b = frm (dk b) (dn b) from if_pos hdb, hdb] at CD2
      change Hid (∀ w, Calls Try.prog 13 #[frm (dk b) (dn b)] w _) at CE2
      generalize frm (dk b) (dn b) = FB at CE2 CD2
      clear KB hbk hk hdb
      go_wp2_with (first
        | (go_at_call 10
           (with_reducible refine Calls.mono (CD2.out _ (HRB.out.below HB3.out)) ?_)
           rintro e w10 ⟨rfl, hb10⟩
           have HB10 := Lib.hid (HB3.out.trans (hb10.mono HB3.out.size))
           clear hb10)
        | (go_at_call 13
           (with_reducible refine Calls.mono (CE2.out _) ?_)
           rintro e w11 ⟨⟨v11, rfl, ho11⟩, hb11⟩
           have HB11 := Lib.hid (HB10.out.trans (hb11.mono HB10.out.size))
           obtain ⟨A11, d11, rfl, hc11, hr11⟩ := ho11.ri
           have s1 := str_at hr11 d11 _ rfl
           have s2 := str_at (HRB.out.below HB11.out) c b.length rfl
           clear hb11 ho11 hr11))
      go_ret
      exact ⟨by simp, HB11.out⟩
    · have q0 : (de b != 0) = true := bne_iff_ne.mpr hdb
      have CD2 := Lib.hid (fun (w : World) (h : Ri .u8 w A b) => decode_ok A c b HBB.out (by omega) hcb w h)
      rw [show dv b = .nilIface from if_neg hdb] at CD2
      generalize de b = EB at CD2 q0
      clear hdb
      go_wp2_with (first
        | (go_at_call 10
           (with_reducible refine Calls.mono (CD2.out _ (HRB.out.below HB3.out)) ?_)
           rintro e w10 ⟨rfl, hb10⟩
           have HB10 := Lib.hid (HB3.out.trans (hb10.mono HB3.out.size))
           clear hb10))
      go_ret
      exact ⟨rfl, HB10.out⟩
  replace hE : E = 0 := Classical.not_not.1 hE
  have HGD := Lib.hid (HEZ.out.1 hE)
  have hin := HGI.out HGD.out
  have HRN := Lib.hid (HRD.out HGD.out)
  have CP := Lib.hid (CPP.out hin)
  have CD := Lib.hid (fun (A : Option Addr) (d : Nat) (w : World) (h : Ri .u8 w A L) (hd : L.length ≤ d) => decode_ok A d L HLB.out (by omega) hd w h)
  rw [HRN.out.1, HRN.out.2.1] at CD
  generalize frm _ _ = FR at CP CD
  clear CPP HGI HGD hin HRN HRD HEZ
  subst hE
  go_enter Try.func4, Try.ntmps4
  go_wp2_with (first
    | (go_at_call 9
       (with_reducible refine Calls.mono CA.out ?_)
       rintro e w1 ⟨rfl, hb1⟩
       obtain ⟨c0, c1, c2, c3, c4, c5, c6, c7, c8, c9, c10, c11, c12, c13⟩ := reads14 (HX.out.keeps hb1)
       have HX1 := Lib.hid (HX.out.keeps hb1)
       have HB1 := Lib.hid (HB0.out.trans (hb1.mono HB0.out.size))
       clear hb1 CA)
    | (go_at_call 14
       (with_reducible refine Calls.mono (CO.out _) ?_)
       rintro e w2 ⟨rfl, hb2⟩
       have HX2 := Lib.hid (HX1.out.keeps hb2)
       have HB2 := Lib.hid (HB1.out.trans (hb2.mono HB1.out.size))
       clear hb2)
    | (go_at_call 13
       (with_reducible refine Calls.mono (CE.out _) ?_)
       rintro e w3 ⟨⟨v3, rfl, ho3⟩, hb3⟩
       have HX3 := Lib.hid (HX2.out.keeps hb3)
       have HB3 := Lib.hid (HB2.out.trans (hb3.mono HB2.out.size))
       have HO3 := Lib.hid (ho3.lower HB2.out.size)
       obtain ⟨A3, d3, rfl, hc3, hr3⟩ := ho3.ri
       have HR3 := Lib.hid hr3
       have HC3 := Lib.hid hc3
       clear ho3 hb3 hr3)
    | (go_at_call 10
       (with_reducible refine Calls.mono (CD.out _ _ _ HR3.out HC3.out) ?_)
       rintro e w4 ⟨rfl, hb4⟩
       have HX4 := Lib.hid (HX3.out.keeps hb4)
       have HB4 := Lib.hid (HB3.out.trans (hb4.mono HB3.out.size))
       clear hb4))
  clear hc3 c0 c1 c2 c3 c4 c5 c6 c7 c8 c9 c10 c11 c12 c13
  refine wp_region_seq [(0, true), (1, true), (2, true), (3, true), (5, true), (4, false), (6, false), (7, true), (8, true)] (fun w' => w'.cell? ⟨W.heap.size, 0, none⟩ = some (.int .i64 kind) ∧ w'.cell? ⟨W.heap.size, 1, none⟩ = some (.int .i64 from_) ∧ w'.cell? ⟨W.heap.size, 2, none⟩ = some (.int .i64 to_) ∧ w'.cell? ⟨W.heap.size, 3, none⟩ = some (.int .i64 root) ∧ w'.cell? ⟨W.heap.size, 4, none⟩ = some (.int .u16 boot) ∧ w'.cell? ⟨W.heap.size, 5, none⟩ = some (.int .u16 seq) ∧ w'.cell? ⟨W.heap.size, 6, none⟩ = some (.int .i64 hops) ∧ w'.cell? ⟨W.heap.size, 7, none⟩ = some (.int .i64 time) ∧ w'.cell? ⟨W.heap.size, 8, none⟩ = some (.int .i64 level) ∧ w'.cell? ⟨W.heap.size, 9, none⟩ = some (.int .i64 sent) ∧ w'.cell? ⟨W.heap.size, 10, none⟩ = some (.int .i64 got) ∧ w'.cell? ⟨W.heap.size, 11, none⟩ = some (.int .i64 back_) ∧ w'.cell? ⟨W.heap.size, 12, none⟩ = some (.int .i64 glob) ∧ w'.cell? ⟨W.heap.size, 13, none⟩ = some (.int .i64 tai)) (by kernel_rfl) (by kernel_rfl) (reads14 HX4.out.drew) (fun hHeld => ?_)
  simp only [List.map_cons, List.map_nil, List.getElem?_toArray, List.getElem?_cons_zero, List.getElem?_cons_succ]
  repeat (first | (refine seq_skip (by rfl) ?_; try simp only [Act.put, List.setIfInBounds_toArray, List.set_cons_zero, List.set_cons_succ]) | (refine seq_not (by rfl) (by assumption) ?_; try simp only [Act.put, List.setIfInBounds_toArray, List.set_cons_zero, List.set_cons_succ]) | (refine seq_take (v := ?_) (by rfl) ?_ ?_; rotate_left; (focus ((intro w hSw; (try dsimp only at hSw); go_simp; (try with_reducible rfl)); done)); try simp only [Act.put, List.setIfInBounds_toArray, List.set_cons_zero, List.set_cons_succ]))
  refine seq_do (fun K hK => ?_)
  go_simp
  go_at_call 12
  (with_reducible refine Calls.mono (CP.out _) ?_)
  rintro e w5 ⟨rfl, hb5⟩
  have HX5 := Lib.hid (HX4.out.drew.keeps hb5)
  have HB5 := Lib.hid ((Pn.below_drew_ HB4.out).trans (hb5.mono HB4.out.size))
  dsimp only
  refine hK.out _ _ (reads14 HX5.out) (fun hHeld2 => ?_)
  clear hK K hHeld hb5
  repeat (first | (refine seq_skip (by rfl) ?_; try simp only [Act.put, List.setIfInBounds_toArray, List.set_cons_zero, List.set_cons_succ]) | (refine seq_not (by rfl) (by assumption) ?_; try simp only [Act.put, List.setIfInBounds_toArray, List.set_cons_zero, List.set_cons_succ]) | (refine seq_take (v := ?_) (by rfl) ?_ ?_; rotate_left; (focus ((intro w hSw; (try dsimp only at hSw); go_simp; (try with_reducible rfl)); done)); try simp only [Act.put, List.setIfInBounds_toArray, List.set_cons_zero, List.set_cons_succ]))
  refine seq_do (fun K hK => ?_)
  go_simp
  go_at_call 15
  (with_reducible refine Calls.mono (CPO.out _) ?_)
  rintro e w6 ⟨rfl, hb6⟩
  have HX6 := Lib.hid (HX5.out.keeps hb6)
  have HB6 := Lib.hid (HB5.out.trans (hb6.mono HB5.out.size))
  dsimp only
  refine hK.out _ _ (reads14 HX6.out) (fun hHeld3 => ?_)
  clear hK K hHeld2 hb6
  repeat (first | (refine seq_skip (by rfl) ?_; try simp only [Act.put, List.setIfInBounds_toArray, List.set_cons_zero, List.set_cons_succ]) | (refine seq_not (by rfl) (by assumption) ?_; try simp only [Act.put, List.setIfInBounds_toArray, List.set_cons_zero, List.set_cons_succ]) | (refine seq_take (v := ?_) (by rfl) ?_ ?_; rotate_left; (focus ((intro w hSw; (try dsimp only at hSw); go_simp; (try with_reducible rfl)); done)); try simp only [Act.put, List.setIfInBounds_toArray, List.set_cons_zero, List.set_cons_succ]))
  refine seq_done ?_
  clear hHeld3 HG HE
  by_cases hdb : de b = 0
  · have hk := (de_zero hdb).2.2.1
    have KB := kn_of hk (nk_dn (l := b) hk)
    have hbk := back HBB.out hdb
    have CE2 := Lib.hid (encode_yes KB (de_zero hdb).2.2.2.2.2 (flds_most hk))
    rw [hbk] at CE2
    have CD2 := Lib.hid (fun (w : World) (h : Ri .u8 w A b) => decode_ok A c b HBB.out (by omega) hcb w h)
    rw [show dv b = frm (dk b) (dn b) from if_pos hdb, hdb] at CD2
    change Hid (∀ w, Calls Try.prog 13 #[frm (dk b) (dn b)] w _) at CE2
    generalize frm (dk b) (dn b) = FB at CE2 CD2
    clear KB hbk hk hdb
    go_wp2_with (first
      | (go_at_call 10
         (with_reducible refine Calls.mono (CD2.out _ (HRB.out.below HB6.out)) ?_)
         rintro e w10 ⟨rfl, hb10⟩
         have HB10 := Lib.hid (HB6.out.trans (hb10.mono HB6.out.size))
         clear hb10)
      | (go_at_call 13
         (with_reducible refine Calls.mono (CE2.out _) ?_)
         rintro e w11 ⟨⟨v11, rfl, ho11⟩, hb11⟩
         have HB11 := Lib.hid (HB10.out.trans (hb11.mono HB10.out.size))
         obtain ⟨A11, d11, rfl, hc11, hr11⟩ := ho11.ri
         have s1 := str_at hr11 d11 _ rfl
         have s2 := str_at (HRB.out.below HB11.out) c b.length rfl
         clear hb11 ho11 hr11))
    go_ret
    exact ⟨by simp, HB11.out⟩
  · have q0 : (de b != 0) = true := bne_iff_ne.mpr hdb
    have CD2 := Lib.hid (fun (w : World) (h : Ri .u8 w A b) => decode_ok A c b HBB.out (by omega) hcb w h)
    rw [show dv b = .nilIface from if_neg hdb] at CD2
    generalize de b = EB at CD2 q0
    clear hdb
    go_wp2_with (first
      | (go_at_call 10
         (with_reducible refine Calls.mono (CD2.out _ (HRB.out.below HB6.out)) ?_)
         rintro e w10 ⟨rfl, hb10⟩
         have HB10 := Lib.hid (HB6.out.trans (hb10.mono HB6.out.size))
         clear hb10))
    go_ret
    exact ⟨rfl, HB10.out⟩
set_option linter.unusedVariables false in
theorem walk (a0_0 : Int) (a0_1 : Int) (a0_2 : Int) (a0_3 : Int) (a0_4 : Int) (a0_5 : Int) (a0_6 : Int) (a0_7 : Int) (a0_8 : Int) (a0_9 : Int) (a0_10 : Int) (a0_11 : Int) (a0_12 : Int) (a0_13 : Int) (a1 : Option Addr) (len1 cap1 : Nat) (z1 : List Int) (W : World) (w0_0 : (Lit.int .i64 a0_0).wf = true) (w0_1 : (Lit.int .i64 a0_1).wf = true) (w0_2 : (Lit.int .i64 a0_2).wf = true) (w0_3 : (Lit.int .i64 a0_3).wf = true) (w0_4 : (Lit.int .u16 a0_4).wf = true) (w0_5 : (Lit.int .u16 a0_5).wf = true) (w0_6 : (Lit.int .i64 a0_6).wf = true) (w0_7 : (Lit.int .i64 a0_7).wf = true) (w0_8 : (Lit.int .i64 a0_8).wf = true) (w0_9 : (Lit.int .i64 a0_9).wf = true) (w0_10 : (Lit.int .i64 a0_10).wf = true) (w0_11 : (Lit.int .i64 a0_11).wf = true) (w0_12 : (Lit.int .i64 a0_12).wf = true) (w0_13 : (Lit.int .i64 a0_13).wf = true) (w1 : Lf.IsRow .u8 W a1 len1 cap1 z1) (y1 : len1 * 1 ≤ 140737488351232) :
    Calls Try.prog 4 #[.agg #[.int .i64 a0_0, .int .i64 a0_1, .int .i64 a0_2, .int .i64 a0_3, .int .u16 a0_4, .int .u16 a0_5, .int .i64 a0_6, .int .i64 a0_7, .int .i64 a0_8, .int .i64 a0_9, .int .i64 a0_10, .int .i64 a0_11, .int .i64 a0_12, .int .i64 a0_13], .slice a1 len1 cap1] W fun e w' => e = .returned (.bool true) ∧ Below W.heap.size W w' := by
  obtain ⟨m, rfl, hmc, hcm, hr, hmb⟩ := In.row_bytes w1
  exact core ⟨a0_0, a0_1, a0_2, a0_3, a0_4, a0_5, a0_6, a0_7, a0_8, a0_9, a0_10, a0_11, a0_12, a0_13⟩ (oks_wf w0_4 w0_5) a1 cap1 m hmc W hr hmb
end Go.Proofs.Ytjkngcpmcmffmaa.FrameBackW
