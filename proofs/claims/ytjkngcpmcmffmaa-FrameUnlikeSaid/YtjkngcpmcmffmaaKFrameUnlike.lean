/- Proves: the law FrameUnlike's function answers true at every input, and changes nothing that was there. -/
import Derived.Test.YtjkngcpmcmffmaaRe
import Derived.Test.YtjkngcpmcmffmaaIn
import Derived.Test.YtjkngcpmcmffmaaStr
import Derived.Test.YtjkngcpmcmffmaaSq2
namespace Go.Proofs.Ytjkngcpmcmffmaa.FrameUnlikeW
open Go.RowKit Go.Proofs.Ytjkngcpmcmffmaa.Bk Go.Proofs.Ytjkngcpmcmffmaa.Rw Go.Proofs.Ytjkngcpmcmffmaa.Ow Go.Proofs.Ytjkngcpmcmffmaa.Kp Go.Proofs.Ytjkngcpmcmffmaa.Sq Go.Proofs.Ytjkngcpmcmffmaa.Octet Go.Proofs.Ytjkngcpmcmffmaa.Fr Go.Proofs.Ytjkngcpmcmffmaa.Pn Go.Proofs.Ytjkngcpmcmffmaa.Crc Go.Proofs.Ytjkngcpmcmffmaa.Cr Go.Proofs.Ytjkngcpmcmffmaa.Gn Go.Proofs.Ytjkngcpmcmffmaa.Kd Go.Proofs.Ytjkngcpmcmffmaa.Dc Go.Proofs.Ytjkngcpmcmffmaa.De Go.Proofs.Ytjkngcpmcmffmaa.Pl Go.Proofs.Ytjkngcpmcmffmaa.Al Go.Proofs.Ytjkngcpmcmffmaa.Rd Go.Proofs.Ytjkngcpmcmffmaa.Str Go.Proofs.Ytjkngcpmcmffmaa.Re
/-- Like bytes: like frames. -/
theorem unlike {p q : Pl} (hp : good p = true) (hq : good q = true) : decide (eb p = eb q) = decide (onl p = onl q) := by
  obtain ⟨_, _, p1, p2⟩ := eb_round hp
  obtain ⟨_, _, q1, q2⟩ := eb_round hq
  have ip := (good_in hp).1
  have iq := (good_in hq).1
  have op : onl p = pln (kn p) (nums p (kn p)) := if_pos ip
  have oq : onl q = pln (kn q) (nums q (kn q)) := if_pos iq
  have hiff : eb p = eb q ↔ onl p = onl q := by
    constructor
    · intro h
      rw [h] at p1 p2
      rw [op, oq, ← p2, ← p1, q2, q1]
    · intro h
      rw [op, oq] at h
      have hk := congrArg Pl.kind h
      rw [(pln_back (kn_in ip) nums_length).1, (pln_back (kn_in iq) nums_length).1] at hk
      have hk2 : kn p = kn q := by omega
      have hn : nums (pln (kn p) (nums p (kn p))) (kn q) = nums (pln (kn q) (nums q (kn q))) (kn q) := congrArg (fun x => nums x (kn q)) h
      rw [hk2, (pln_back (kn_in iq) nums_length).2, (pln_back (kn_in iq) nums_length).2] at hn
      rw [show eb p = _ from if_pos hp, show eb q = _ from if_pos hq, hk2, hn]
  by_cases h : eb p = eb q
  · rw [decide_eq_true h, decide_eq_true (hiff.1 h)]
  · rw [decide_eq_false h, decide_eq_false (fun h2 => h (hiff.2 h2))]
set_option maxRecDepth 100000 in
set_option maxHeartbeats 4000000 in
theorem core (p q : Pl) (hp : Oks p) (hq : Oks q) (W : World) :
    Calls Try.prog 6 #[p.v, q.v] W fun e w' => e = .returned (.bool true) ∧ Below W.heap.size W w' := by
  have HU := Lib.hid (fun h1 h2 => unlike (p := p) (q := q) h1 h2)
  have HGE := Lib.hid (guard31 .eql (onl p) (onl q))
  have HEQ := Lib.hid (eq_pl (onl p) (onl q))
  have CPO := Lib.hid (only_ok p)
  have CQO := Lib.hid (only_ok q)
  have CPG := Lib.hid (goodr_ok p hp)
  have CQG := Lib.hid (goodr_ok q hq)
  have CPF := Lib.hid (of_ok p)
  have CQF := Lib.hid (of_ok q)
  have CPE := Lib.hid (enc_ok p hp)
  have CQE := Lib.hid (enc_ok q hq)
  have CA := Lib.hid (alive_ok ((W.alloc (.cells p.cs 31)).alloc (.cells q.cs 31)))
  have XP := Lib.hid ((Blk.new W 31 p.cs).alloc (.cells q.cs 31))
  have XQ := Lib.hid (show Blk ((W.alloc (.cells p.cs 31)).alloc (.cells q.cs 31)) (W.heap.size + 1) 31 q.cs from blk_new_at (by simp))
  have HB0 := Lib.hid (((Below.refl W.heap.size W).alloc (Nat.le_refl _) (.cells p.cs 31)).alloc (by simp) (.cells q.cs 31))
  have HPB := Lib.hid (eb_bytes p)
  have HQB := Lib.hid (eb_bytes q)
  have HPZ := Lib.hid (ee_zero (p := p))
  have HQZ := Lib.hid (ee_zero (p := q))
  have HSE := Lib.hid (str_eq (eb_bytes p) (eb_bytes q))
  generalize ofv p = FP at CPF CPE
  generalize ofv q = FQ at CQF CQE
  generalize eb p = LP at CPE HPB HU HSE
  generalize eb q = LQ at CQE HQB HU HSE
  generalize ee p = EP at CPE HPZ
  generalize ee q = EQ at CQE HQZ
  generalize good p = GP at CPG HPZ HU
  generalize good q = GQ at CQG HQZ HU
  obtain ⟨DD, hDD⟩ : ∃ b, decide (onl p = onl q) = b := ⟨_, rfl⟩
  rw [hDD] at HU HEQ
  generalize (onl p).v = OP at CPO HEQ HGE
  generalize (onl q).v = OQ at CQO HEQ HGE
  clear hDD hp hq
  obtain ⟨kind, from_, to_, root, boot, seq, hops, time, level, sent, got, back, glob, tai⟩ := p
  obtain ⟨kind', from_', to_', root', boot', seq', hops', time', level', sent', got', back', glob', tai'⟩ := q
  simp only [Pl.v, Pl.cs] at *
  by_cases hEP : EP ≠ 0
  · have hG : GP = false := by
      cases GP
      · rfl
      · exact absurd (HPZ.out.2 rfl) hEP
    subst hG
    have q0 : (EP != 0) = true := bne_iff_ne.mpr hEP
    clear hEP
    go_enter Try.func6, Try.ntmps6
    go_wp2_with (first
      | (go_at_call 9
         (with_reducible refine Calls.mono CA.out ?_)
         rintro e w1 ⟨rfl, hb1⟩
         have XP1 := Lib.hid (XP.out.keeps hb1)
         have XQ1 := Lib.hid (XQ.out.keeps hb1)
         have HB1 := Lib.hid (HB0.out.trans (hb1.mono HB0.out.size))
         obtain ⟨c0, c1, c2, c3, c4, c5, c6, c7, c8, c9, c10, c11, c12, c13⟩ := reads14 XP1.out
         clear hb1 CA XP XQ HB0)
      | (go_at_call 14
         (with_reducible refine Calls.mono (CPF.out _) ?_)
         rintro e w2 ⟨rfl, hb2⟩
         have XP2 := Lib.hid (XP1.out.keeps hb2)
         have XQ2 := Lib.hid (XQ1.out.keeps hb2)
         have HB2 := Lib.hid (HB1.out.trans (hb2.mono HB1.out.size))
         clear hb2 c0 c1 c2 c3 c4 c5 c6 c7 c8 c9 c10 c11 c12 c13 CPF XP1 XQ1 HB1)
      | (go_at_call 13
         (with_reducible refine Calls.mono (CPE.out _) ?_)
         rintro e w3 ⟨⟨v3, rfl, ho3⟩, hb3⟩
         have XP3 := Lib.hid (XP2.out.keeps hb3)
         have XQ3 := Lib.hid (XQ2.out.keeps hb3)
         have HB3 := Lib.hid (HB2.out.trans (hb3.mono HB2.out.size))
         obtain ⟨AP, dp, rfl, hcp, hrp⟩ := ho3.ri
         have HRP := Lib.hid hrp
         obtain ⟨c0, c1, c2, c3, c4, c5, c6, c7, c8, c9, c10, c11, c12, c13⟩ := reads14 XQ3.out
         clear ho3 hb3 hrp CPE XP2 XQ2 HB2)
      | (go_at_call 14
         (with_reducible refine Calls.mono (CQF.out _) ?_)
         rintro e w4 ⟨rfl, hb4⟩
         have XP4 := Lib.hid (XP3.out.keeps hb4)
         have XQ4 := Lib.hid (XQ3.out.keeps hb4)
         have HB4 := Lib.hid (HB3.out.trans (hb4.mono HB3.out.size))
         have HRP4 := Lib.hid (HRP.out.below hb4)
         clear hb4 c0 c1 c2 c3 c4 c5 c6 c7 c8 c9 c10 c11 c12 c13 CQF XP3 XQ3 HB3 HRP)
      | (go_at_call 13
         (with_reducible refine Calls.mono (CQE.out _) ?_)
         rintro e w5 ⟨⟨v5, rfl, ho5⟩, hb5⟩
         have XP5 := Lib.hid (XP4.out.keeps hb5)
         have XQ5 := Lib.hid (XQ4.out.keeps hb5)
         have HB5 := Lib.hid (HB4.out.trans (hb5.mono HB4.out.size))
         obtain ⟨AQ, dq, rfl, hcq, hrq⟩ := ho5.ri
         have HRQ := Lib.hid hrq
         have HRP5 := Lib.hid (HRP4.out.below hb5)
         obtain ⟨c0, c1, c2, c3, c4, c5, c6, c7, c8, c9, c10, c11, c12, c13⟩ := reads14 XP5.out
         clear ho5 hb5 hrq CQE XP4 XQ4 HB4 HRP4)
      | (go_at_call 17
         (with_reducible refine Calls.mono (CPG.out _) ?_)
         rintro e w6 ⟨rfl, hb6⟩
         have XQ6 := Lib.hid (XQ5.out.keeps hb6)
         have HB6 := Lib.hid (HB5.out.trans (hb6.mono HB5.out.size))
         clear c0 c1 c2 c3 c4 c5 c6 c7 c8 c9 c10 c11 c12 c13
         obtain ⟨c0, c1, c2, c3, c4, c5, c6, c7, c8, c9, c10, c11, c12, c13⟩ := reads14 XQ6.out
         clear hb6 CPG)
      | (go_at_call 17
         (with_reducible refine Calls.mono (CQG.out _) ?_)
         rintro e w7 ⟨rfl, hb7⟩
         have HB7 := Lib.hid (HB6.out.trans (hb7.mono HB6.out.size))
         clear hb7 CQG)
      )
    go_ret
    exact ⟨rfl, HB6.out⟩
  replace hEP : EP = 0 := Classical.not_not.1 hEP
  have hGP := HPZ.out.1 hEP
  subst hEP hGP
  by_cases hEQ : EQ ≠ 0
  · have hG : GQ = false := by
      cases GQ
      · rfl
      · exact absurd (HQZ.out.2 rfl) hEQ
    subst hG
    have q0 : (EQ != 0) = true := bne_iff_ne.mpr hEQ
    clear hEQ
    go_enter Try.func6, Try.ntmps6
    go_wp2_with (first
      | (go_at_call 9
         (with_reducible refine Calls.mono CA.out ?_)
         rintro e w1 ⟨rfl, hb1⟩
         have XP1 := Lib.hid (XP.out.keeps hb1)
         have XQ1 := Lib.hid (XQ.out.keeps hb1)
         have HB1 := Lib.hid (HB0.out.trans (hb1.mono HB0.out.size))
         obtain ⟨c0, c1, c2, c3, c4, c5, c6, c7, c8, c9, c10, c11, c12, c13⟩ := reads14 XP1.out
         clear hb1 CA XP XQ HB0)
      | (go_at_call 14
         (with_reducible refine Calls.mono (CPF.out _) ?_)
         rintro e w2 ⟨rfl, hb2⟩
         have XP2 := Lib.hid (XP1.out.keeps hb2)
         have XQ2 := Lib.hid (XQ1.out.keeps hb2)
         have HB2 := Lib.hid (HB1.out.trans (hb2.mono HB1.out.size))
         clear hb2 c0 c1 c2 c3 c4 c5 c6 c7 c8 c9 c10 c11 c12 c13 CPF XP1 XQ1 HB1)
      | (go_at_call 13
         (with_reducible refine Calls.mono (CPE.out _) ?_)
         rintro e w3 ⟨⟨v3, rfl, ho3⟩, hb3⟩
         have XP3 := Lib.hid (XP2.out.keeps hb3)
         have XQ3 := Lib.hid (XQ2.out.keeps hb3)
         have HB3 := Lib.hid (HB2.out.trans (hb3.mono HB2.out.size))
         obtain ⟨AP, dp, rfl, hcp, hrp⟩ := ho3.ri
         have HRP := Lib.hid hrp
         obtain ⟨c0, c1, c2, c3, c4, c5, c6, c7, c8, c9, c10, c11, c12, c13⟩ := reads14 XQ3.out
         clear ho3 hb3 hrp CPE XP2 XQ2 HB2)
      | (go_at_call 14
         (with_reducible refine Calls.mono (CQF.out _) ?_)
         rintro e w4 ⟨rfl, hb4⟩
         have XP4 := Lib.hid (XP3.out.keeps hb4)
         have XQ4 := Lib.hid (XQ3.out.keeps hb4)
         have HB4 := Lib.hid (HB3.out.trans (hb4.mono HB3.out.size))
         have HRP4 := Lib.hid (HRP.out.below hb4)
         clear hb4 c0 c1 c2 c3 c4 c5 c6 c7 c8 c9 c10 c11 c12 c13 CQF XP3 XQ3 HB3 HRP)
      | (go_at_call 13
         (with_reducible refine Calls.mono (CQE.out _) ?_)
         rintro e w5 ⟨⟨v5, rfl, ho5⟩, hb5⟩
         have XP5 := Lib.hid (XP4.out.keeps hb5)
         have XQ5 := Lib.hid (XQ4.out.keeps hb5)
         have HB5 := Lib.hid (HB4.out.trans (hb5.mono HB4.out.size))
         obtain ⟨AQ, dq, rfl, hcq, hrq⟩ := ho5.ri
         have HRQ := Lib.hid hrq
         have HRP5 := Lib.hid (HRP4.out.below hb5)
         obtain ⟨c0, c1, c2, c3, c4, c5, c6, c7, c8, c9, c10, c11, c12, c13⟩ := reads14 XP5.out
         clear ho5 hb5 hrq CQE XP4 XQ4 HB4 HRP4)
      | (go_at_call 17
         (with_reducible refine Calls.mono (CPG.out _) ?_)
         rintro e w6 ⟨rfl, hb6⟩
         have XQ6 := Lib.hid (XQ5.out.keeps hb6)
         have HB6 := Lib.hid (HB5.out.trans (hb6.mono HB5.out.size))
         clear c0 c1 c2 c3 c4 c5 c6 c7 c8 c9 c10 c11 c12 c13
         obtain ⟨c0, c1, c2, c3, c4, c5, c6, c7, c8, c9, c10, c11, c12, c13⟩ := reads14 XQ6.out
         clear hb6 CPG)
      | (go_at_call 17
         (with_reducible refine Calls.mono (CQG.out _) ?_)
         rintro e w7 ⟨rfl, hb7⟩
         have HB7 := Lib.hid (HB6.out.trans (hb7.mono HB6.out.size))
         clear hb7 CQG)
      )
    go_ret
    exact ⟨rfl, HB7.out⟩
  replace hEQ : EQ = 0 := Classical.not_not.1 hEQ
  have hGQ := HQZ.out.1 hEQ
  subst hEQ hGQ
  have HSS := HSE.out
  rw [HU.out rfl rfl] at HSS
  go_enter Try.func6, Try.ntmps6
  go_wp2_with (first
    | (go_at_call 9
       (with_reducible refine Calls.mono CA.out ?_)
       rintro e w1 ⟨rfl, hb1⟩
       have XP1 := Lib.hid (XP.out.keeps hb1)
       have XQ1 := Lib.hid (XQ.out.keeps hb1)
       have HB1 := Lib.hid (HB0.out.trans (hb1.mono HB0.out.size))
       obtain ⟨c0, c1, c2, c3, c4, c5, c6, c7, c8, c9, c10, c11, c12, c13⟩ := reads14 XP1.out
       clear hb1 CA XP XQ HB0)
    | (go_at_call 14
       (with_reducible refine Calls.mono (CPF.out _) ?_)
       rintro e w2 ⟨rfl, hb2⟩
       have XP2 := Lib.hid (XP1.out.keeps hb2)
       have XQ2 := Lib.hid (XQ1.out.keeps hb2)
       have HB2 := Lib.hid (HB1.out.trans (hb2.mono HB1.out.size))
       clear hb2 c0 c1 c2 c3 c4 c5 c6 c7 c8 c9 c10 c11 c12 c13 CPF XP1 XQ1 HB1)
    | (go_at_call 13
       (with_reducible refine Calls.mono (CPE.out _) ?_)
       rintro e w3 ⟨⟨v3, rfl, ho3⟩, hb3⟩
       have XP3 := Lib.hid (XP2.out.keeps hb3)
       have XQ3 := Lib.hid (XQ2.out.keeps hb3)
       have HB3 := Lib.hid (HB2.out.trans (hb3.mono HB2.out.size))
       obtain ⟨AP, dp, rfl, hcp, hrp⟩ := ho3.ri
       have HRP := Lib.hid hrp
       obtain ⟨c0, c1, c2, c3, c4, c5, c6, c7, c8, c9, c10, c11, c12, c13⟩ := reads14 XQ3.out
       clear ho3 hb3 hrp CPE XP2 XQ2 HB2)
    | (go_at_call 14
       (with_reducible refine Calls.mono (CQF.out _) ?_)
       rintro e w4 ⟨rfl, hb4⟩
       have XP4 := Lib.hid (XP3.out.keeps hb4)
       have XQ4 := Lib.hid (XQ3.out.keeps hb4)
       have HB4 := Lib.hid (HB3.out.trans (hb4.mono HB3.out.size))
       have HRP4 := Lib.hid (HRP.out.below hb4)
       clear hb4 c0 c1 c2 c3 c4 c5 c6 c7 c8 c9 c10 c11 c12 c13 CQF XP3 XQ3 HB3 HRP)
    | (go_at_call 13
       (with_reducible refine Calls.mono (CQE.out _) ?_)
       rintro e w5 ⟨⟨v5, rfl, ho5⟩, hb5⟩
       have XP5 := Lib.hid (XP4.out.keeps hb5)
       have XQ5 := Lib.hid (XQ4.out.keeps hb5)
       have HB5 := Lib.hid (HB4.out.trans (hb5.mono HB4.out.size))
       obtain ⟨AQ, dq, rfl, hcq, hrq⟩ := ho5.ri
       have HRQ := Lib.hid hrq
       have HRP5 := Lib.hid (HRP4.out.below hb5)
       obtain ⟨c0, c1, c2, c3, c4, c5, c6, c7, c8, c9, c10, c11, c12, c13⟩ := reads14 XP5.out
       clear ho5 hb5 hrq CQE XP4 XQ4 HB4 HRP4)
    | (go_at_call 17
       (with_reducible refine Calls.mono (CPG.out _) ?_)
       rintro e w6 ⟨rfl, hb6⟩
       have XQ6 := Lib.hid (XQ5.out.keeps hb6)
       have HB6 := Lib.hid (HB5.out.trans (hb6.mono HB5.out.size))
       clear c0 c1 c2 c3 c4 c5 c6 c7 c8 c9 c10 c11 c12 c13
       obtain ⟨c0, c1, c2, c3, c4, c5, c6, c7, c8, c9, c10, c11, c12, c13⟩ := reads14 XQ6.out
       clear hb6 CPG)
    | (go_at_call 17
       (with_reducible refine Calls.mono (CQG.out _) ?_)
       rintro e w7 ⟨rfl, hb7⟩
       have HB7 := Lib.hid (HB6.out.trans (hb7.mono HB6.out.size))
       clear hb7 CQG)
    )
  have HC1 := Lib.hid (fun (w : World) (h : Ri .u8 w AP LP) => str_at h dp LP.length rfl)
  have HC2 := Lib.hid (fun (w : World) (h : Ri .u8 w AQ LQ) => str_at h dq LQ.length rfl)
  generalize str LP = SP at HSS HC1
  generalize str LQ = SQ at HSS HC2
  have HG := HGE.out
  have HE := HEQ.out
  clear c0 c1 c2 c3 c4 c5 c6 c7 c8 c9 c10 c11 c12 c13 HSE HGE HEQ
  refine wp_region_seq [(0, true), (1, true), (2, true), (3, true), (4, true), (5, true), (7, true), (6, false), (8, false), (9, true), (10, true), (11, true)] (fun w' => (w'.cell? ⟨W.heap.size, 0, none⟩ = some (.int .i64 kind) ∧ w'.cell? ⟨W.heap.size, 1, none⟩ = some (.int .i64 from_) ∧ w'.cell? ⟨W.heap.size, 2, none⟩ = some (.int .i64 to_) ∧ w'.cell? ⟨W.heap.size, 3, none⟩ = some (.int .i64 root) ∧ w'.cell? ⟨W.heap.size, 4, none⟩ = some (.int .u16 boot) ∧ w'.cell? ⟨W.heap.size, 5, none⟩ = some (.int .u16 seq) ∧ w'.cell? ⟨W.heap.size, 6, none⟩ = some (.int .i64 hops) ∧ w'.cell? ⟨W.heap.size, 7, none⟩ = some (.int .i64 time) ∧ w'.cell? ⟨W.heap.size, 8, none⟩ = some (.int .i64 level) ∧ w'.cell? ⟨W.heap.size, 9, none⟩ = some (.int .i64 sent) ∧ w'.cell? ⟨W.heap.size, 10, none⟩ = some (.int .i64 got) ∧ w'.cell? ⟨W.heap.size, 11, none⟩ = some (.int .i64 back) ∧ w'.cell? ⟨W.heap.size, 12, none⟩ = some (.int .i64 glob) ∧ w'.cell? ⟨W.heap.size, 13, none⟩ = some (.int .i64 tai)) ∧ (w'.cell? ⟨W.heap.size + 1, 0, none⟩ = some (.int .i64 kind') ∧ w'.cell? ⟨W.heap.size + 1, 1, none⟩ = some (.int .i64 from_') ∧ w'.cell? ⟨W.heap.size + 1, 2, none⟩ = some (.int .i64 to_') ∧ w'.cell? ⟨W.heap.size + 1, 3, none⟩ = some (.int .i64 root') ∧ w'.cell? ⟨W.heap.size + 1, 4, none⟩ = some (.int .u16 boot') ∧ w'.cell? ⟨W.heap.size + 1, 5, none⟩ = some (.int .u16 seq') ∧ w'.cell? ⟨W.heap.size + 1, 6, none⟩ = some (.int .i64 hops') ∧ w'.cell? ⟨W.heap.size + 1, 7, none⟩ = some (.int .i64 time') ∧ w'.cell? ⟨W.heap.size + 1, 8, none⟩ = some (.int .i64 level') ∧ w'.cell? ⟨W.heap.size + 1, 9, none⟩ = some (.int .i64 sent') ∧ w'.cell? ⟨W.heap.size + 1, 10, none⟩ = some (.int .i64 got') ∧ w'.cell? ⟨W.heap.size + 1, 11, none⟩ = some (.int .i64 back') ∧ w'.cell? ⟨W.heap.size + 1, 12, none⟩ = some (.int .i64 glob') ∧ w'.cell? ⟨W.heap.size + 1, 13, none⟩ = some (.int .i64 tai')) ∧ (convert 22 9 (.slice AP LP.length dp)).run Try.prog w' = .ok (.string SP) w' ∧ (convert 22 9 (.slice AQ LQ.length dq)).run Try.prog w' = .ok (.string SQ) w') (by kernel_rfl) (by kernel_rfl) ⟨reads14 XP5.out.drew, reads14 XQ5.out.drew, HC1.out _ HRP5.out.drew, HC2.out _ HRQ.out.drew⟩ (fun hHeld => ?_)
  simp only [List.map_cons, List.map_nil, List.getElem?_toArray, List.getElem?_cons_zero, List.getElem?_cons_succ]
  repeat (first | (refine seq_skip (by rfl) ?_; try simp only [Act.put, List.setIfInBounds_toArray, List.set_cons_zero, List.set_cons_succ]) | (refine seq_not (by rfl) (by assumption) ?_; try simp only [Act.put, List.setIfInBounds_toArray, List.set_cons_zero, List.set_cons_succ]) | (refine seq_take (v := ?_) (by rfl) ?_ ?_; rotate_left; (focus ((intro w hSw; (try dsimp only at hSw); go_simp; (try with_reducible rfl)); done)); try simp only [Act.put, List.setIfInBounds_toArray, List.set_cons_zero, List.set_cons_succ]))
  refine seq_do (fun K hK => ?_)
  go_simp
  go_at_call 15
  (with_reducible refine Calls.mono (CPO.out _) ?_)
  rintro e w8 ⟨rfl, hb8⟩
  have XP8 := Lib.hid (XP5.out.drew.keeps hb8)
  have XQ8 := Lib.hid (XQ5.out.drew.keeps hb8)
  have HB8 := Lib.hid ((Pn.below_drew_ HB5.out).trans (hb8.mono HB5.out.size))
  have HP8 := Lib.hid (HRP5.out.drew.below hb8)
  have HQ8 := Lib.hid (HRQ.out.drew.below hb8)
  dsimp only
  refine hK.out _ _ ⟨reads14 XP8.out, reads14 XQ8.out, HC1.out _ HP8.out, HC2.out _ HQ8.out⟩ (fun hHeld2 => ?_)
  clear hK K hHeld hb8
  repeat (first | (refine seq_skip (by rfl) ?_; try simp only [Act.put, List.setIfInBounds_toArray, List.set_cons_zero, List.set_cons_succ]) | (refine seq_not (by rfl) (by assumption) ?_; try simp only [Act.put, List.setIfInBounds_toArray, List.set_cons_zero, List.set_cons_succ]) | (refine seq_take (v := ?_) (by rfl) ?_ ?_; rotate_left; (focus ((intro w hSw; (try dsimp only at hSw); go_simp; (try with_reducible rfl)); done)); try simp only [Act.put, List.setIfInBounds_toArray, List.set_cons_zero, List.set_cons_succ]))
  refine seq_do (fun K hK => ?_)
  go_simp
  go_at_call 15
  (with_reducible refine Calls.mono (CQO.out _) ?_)
  rintro e w9 ⟨rfl, hb9⟩
  have HB9 := Lib.hid (HB8.out.trans (hb9.mono HB8.out.size))
  dsimp only
  refine hK.out _ _ ⟨reads14 (XP8.out.keeps hb9), reads14 (XQ8.out.keeps hb9), HC1.out _ (HP8.out.below hb9), HC2.out _ (HQ8.out.below hb9)⟩ (fun hHeld3 => ?_)
  clear hK K hHeld2 hb9
  repeat (first | (refine seq_skip (by rfl) ?_; try simp only [Act.put, List.setIfInBounds_toArray, List.set_cons_zero, List.set_cons_succ]) | (refine seq_not (by rfl) (by assumption) ?_; try simp only [Act.put, List.setIfInBounds_toArray, List.set_cons_zero, List.set_cons_succ]) | (refine seq_take (v := ?_) (by rfl) ?_ ?_; rotate_left; (focus ((intro w hSw; (try dsimp only at hSw); go_simp; (try with_reducible rfl)); done)); try simp only [Act.put, List.setIfInBounds_toArray, List.set_cons_zero, List.set_cons_succ]))
  refine seq_done ?_
  clear hHeld3
  go_wp2
  go_ret
  exact ⟨by simp, HB9.out⟩
set_option linter.unusedVariables false in
theorem walk (a0_0 : Int) (a0_1 : Int) (a0_2 : Int) (a0_3 : Int) (a0_4 : Int) (a0_5 : Int) (a0_6 : Int) (a0_7 : Int) (a0_8 : Int) (a0_9 : Int) (a0_10 : Int) (a0_11 : Int) (a0_12 : Int) (a0_13 : Int) (a1_0 : Int) (a1_1 : Int) (a1_2 : Int) (a1_3 : Int) (a1_4 : Int) (a1_5 : Int) (a1_6 : Int) (a1_7 : Int) (a1_8 : Int) (a1_9 : Int) (a1_10 : Int) (a1_11 : Int) (a1_12 : Int) (a1_13 : Int) (W : World) (w0_0 : (Lit.int .i64 a0_0).wf = true) (w0_1 : (Lit.int .i64 a0_1).wf = true) (w0_2 : (Lit.int .i64 a0_2).wf = true) (w0_3 : (Lit.int .i64 a0_3).wf = true) (w0_4 : (Lit.int .u16 a0_4).wf = true) (w0_5 : (Lit.int .u16 a0_5).wf = true) (w0_6 : (Lit.int .i64 a0_6).wf = true) (w0_7 : (Lit.int .i64 a0_7).wf = true) (w0_8 : (Lit.int .i64 a0_8).wf = true) (w0_9 : (Lit.int .i64 a0_9).wf = true) (w0_10 : (Lit.int .i64 a0_10).wf = true) (w0_11 : (Lit.int .i64 a0_11).wf = true) (w0_12 : (Lit.int .i64 a0_12).wf = true) (w0_13 : (Lit.int .i64 a0_13).wf = true) (w1_0 : (Lit.int .i64 a1_0).wf = true) (w1_1 : (Lit.int .i64 a1_1).wf = true) (w1_2 : (Lit.int .i64 a1_2).wf = true) (w1_3 : (Lit.int .i64 a1_3).wf = true) (w1_4 : (Lit.int .u16 a1_4).wf = true) (w1_5 : (Lit.int .u16 a1_5).wf = true) (w1_6 : (Lit.int .i64 a1_6).wf = true) (w1_7 : (Lit.int .i64 a1_7).wf = true) (w1_8 : (Lit.int .i64 a1_8).wf = true) (w1_9 : (Lit.int .i64 a1_9).wf = true) (w1_10 : (Lit.int .i64 a1_10).wf = true) (w1_11 : (Lit.int .i64 a1_11).wf = true) (w1_12 : (Lit.int .i64 a1_12).wf = true) (w1_13 : (Lit.int .i64 a1_13).wf = true) :
    Calls Try.prog 6 #[.agg #[.int .i64 a0_0, .int .i64 a0_1, .int .i64 a0_2, .int .i64 a0_3, .int .u16 a0_4, .int .u16 a0_5, .int .i64 a0_6, .int .i64 a0_7, .int .i64 a0_8, .int .i64 a0_9, .int .i64 a0_10, .int .i64 a0_11, .int .i64 a0_12, .int .i64 a0_13], .agg #[.int .i64 a1_0, .int .i64 a1_1, .int .i64 a1_2, .int .i64 a1_3, .int .u16 a1_4, .int .u16 a1_5, .int .i64 a1_6, .int .i64 a1_7, .int .i64 a1_8, .int .i64 a1_9, .int .i64 a1_10, .int .i64 a1_11, .int .i64 a1_12, .int .i64 a1_13]] W fun e w' => e = .returned (.bool true) ∧ Below W.heap.size W w' := by
  exact core ⟨a0_0, a0_1, a0_2, a0_3, a0_4, a0_5, a0_6, a0_7, a0_8, a0_9, a0_10, a0_11, a0_12, a0_13⟩ ⟨a1_0, a1_1, a1_2, a1_3, a1_4, a1_5, a1_6, a1_7, a1_8, a1_9, a1_10, a1_11, a1_12, a1_13⟩ (oks_wf w0_4 w0_5) (oks_wf w1_4 w1_5) W
end Go.Proofs.Ytjkngcpmcmffmaa.FrameUnlikeW
