/- Proves: the law FrameWrites's function answers true at every input, and changes nothing that was there. -/
import Derived.Test.YtjkngcpmcmffmaaSn
import Derived.Test.YtjkngcpmcmffmaaPt
namespace Go.Proofs.Ytjkngcpmcmffmaa.FrameWritesW
open Go.RowKit Go.Proofs.Ytjkngcpmcmffmaa.Bk Go.Proofs.Ytjkngcpmcmffmaa.Rw Go.Proofs.Ytjkngcpmcmffmaa.Ow Go.Proofs.Ytjkngcpmcmffmaa.Kp Go.Proofs.Ytjkngcpmcmffmaa.Sq Go.Proofs.Ytjkngcpmcmffmaa.Octet Go.Proofs.Ytjkngcpmcmffmaa.Fr Go.Proofs.Ytjkngcpmcmffmaa.Pn Go.Proofs.Ytjkngcpmcmffmaa.Crc Go.Proofs.Ytjkngcpmcmffmaa.Cr Go.Proofs.Ytjkngcpmcmffmaa.Gn Go.Proofs.Ytjkngcpmcmffmaa.Kd Go.Proofs.Ytjkngcpmcmffmaa.Dc Go.Proofs.Ytjkngcpmcmffmaa.De Go.Proofs.Ytjkngcpmcmffmaa.Pl Go.Proofs.Ytjkngcpmcmffmaa.Al Go.Proofs.Ytjkngcpmcmffmaa.Rd Go.Proofs.Ytjkngcpmcmffmaa.Str Go.Proofs.Ytjkngcpmcmffmaa.Re Go.Proofs.Ytjkngcpmcmffmaa.Sn Go.Proofs.Ytjkngcpmcmffmaa.Pt
theorem iface_neq_nil (T : Nat) (v : Value) (w : World) : (binOp .neq 25 (.iface T v) .nilIface).run Try.prog w = .ok (.bool true) w := by
  first | kernel_rfl | rfl
set_option maxRecDepth 100000 in
set_option maxHeartbeats 4000000 in
theorem core (p : Pl) (hp : Oks p) (W : World) :
    Calls Try.prog 8 #[p.v] W fun e w' => e = .returned (.bool true) ∧ Below W.heap.size W w' := by
  have CG := Lib.hid (gd_ok p hp)
  have CGR := Lib.hid (goodr_ok p hp)
  have CBY := Lib.hid (bytesr_ok p hp)
  have HSN := Lib.hid (sender_of p)
  have HOUT := Lib.hid (fun (h : ¬ inK p) => (show ofv p = .nilIface ∧ good p = false from ⟨ofv_out h, by unfold good; rw [decide_eq_false h]; rfl⟩))
  have CA := Lib.hid (alive_ok (W.alloc (.cells p.cs 31)))
  have CO := Lib.hid (of_ok p)
  have CE := Lib.hid (enc_ok p hp)
  have HX := Lib.hid (Blk.new W 31 p.cs)
  have HB0 := Lib.hid ((Below.refl W.heap.size W).alloc (Nat.le_refl _) (.cells p.cs 31))
  have HLB := Lib.hid (eb_bytes p)
  have hL := eb_length p
  have HEZ := Lib.hid (ee_zero (p := p))
  have HRD := Lib.hid (fun h => eb_round (p := p) h)
  obtain ⟨FV, hFV⟩ : ∃ FV, ofv p = FV := ⟨_, rfl⟩
  obtain ⟨L, hLe⟩ : ∃ L, eb p = L := ⟨_, rfl⟩
  obtain ⟨E, hE⟩ : ∃ E, ee p = E := ⟨_, rfl⟩
  rw [hFV] at CO CE
  rw [hLe, hE] at CE
  rw [hE] at HEZ
  rw [hLe] at HLB hL HRD
  have HL := Lib.hid hLe
  have HP := Lib.hid hp
  have hFV0 := hFV
  have hLe0 := hLe
  have hE0 := hE
  clear hFV hLe hE hp
  rw [hFV0] at CG HSN HOUT
  rw [hLe0] at CBY
  have HEB := Lib.hid (show good p = false → L = [] ∧ E = 1 from fun h => ⟨by rw [← hLe0]; unfold eb; rw [h]; rfl, by rw [← hE0]; unfold ee; rw [h]; rfl⟩)
  generalize good p = GP at CG CGR CBY HOUT HEZ HRD HEB
  clear hFV0 hLe0 hE0
  by_cases hin : inK p
  · have hfr : p.from_ = p.from_ := rfl
    obtain ⟨T, F, v, rfl, hm, hc, hs⟩ := HSN.out hin
    have CS := Lib.hid hs
    have hnn := iface_neq_nil T v
    clear hin hs HSN HOUT
    obtain ⟨kind, from_, to_, root, boot, seq, hops, time, level, sent, got, back_, glob, tai⟩ := p
    simp only [Pl.v, Pl.cs] at *
    go_enter Try.func8, Try.ntmps8
    go_wp2_with (first
      | (go_at_call 9
         (with_reducible refine Calls.mono CA.out ?_)
         rintro e w1 ⟨rfl, hb1⟩
         obtain ⟨c0, c1, c2, c3, c4, c5, c6, c7, c8, c9, c10, c11, c12, c13⟩ := reads14 (HX.out.keeps hb1)
         have HX1 := Lib.hid (HX.out.keeps hb1)
         have HB1 := Lib.hid (HB0.out.trans (hb1.mono HB0.out.size))
         clear hb1 CA)
      | (go_at_call 14
         (with_reducible refine Calls.mono (CO.out _) ?_)
         rintro e w2 ⟨rfl, hb2⟩
         have HX2 := Lib.hid (HX1.out.keeps hb2)
         have HB2 := Lib.hid (HB1.out.trans (hb2.mono HB1.out.size))
         clear hb2)
      | (go_at_call 13
         (with_reducible refine Calls.mono (CE.out _) ?_)
         rintro e w3 ⟨⟨v3, rfl, ho3⟩, hb3⟩
         have HX3 := Lib.hid (HX2.out.keeps hb3)
         have HB3 := Lib.hid (HB2.out.trans (hb3.mono HB2.out.size))
         have HO3 := Lib.hid (ho3.lower HB2.out.size)
         obtain ⟨A3, d3, rfl, hc3, hr3⟩ := ho3.ri
         have HR3 := Lib.hid hr3
         have HC3 := Lib.hid hc3
         clear ho3 hb3 hr3)
      | fail)
    clear c0 c1 c2 c3 c4 c5 c6 c7 c8 c9 c10 c11 c12 c13
    refine wp_region_seq [(0, true), (2, true), (1, false), (3, false), (4, true), (5, true), (6, true), (7, true), (8, true), (9, true), (11, true), (12, true), (10, false), (13, true), (14, true), (15, true)] (fun w' => w'.cell? ⟨W.heap.size, 0, none⟩ = some (.int .i64 kind) ∧ w'.cell? ⟨W.heap.size, 1, none⟩ = some (.int .i64 from_) ∧ w'.cell? ⟨W.heap.size, 2, none⟩ = some (.int .i64 to_) ∧ w'.cell? ⟨W.heap.size, 3, none⟩ = some (.int .i64 root) ∧ w'.cell? ⟨W.heap.size, 4, none⟩ = some (.int .u16 boot) ∧ w'.cell? ⟨W.heap.size, 5, none⟩ = some (.int .u16 seq) ∧ w'.cell? ⟨W.heap.size, 6, none⟩ = some (.int .i64 hops) ∧ w'.cell? ⟨W.heap.size, 7, none⟩ = some (.int .i64 time) ∧ w'.cell? ⟨W.heap.size, 8, none⟩ = some (.int .i64 level) ∧ w'.cell? ⟨W.heap.size, 9, none⟩ = some (.int .i64 sent) ∧ w'.cell? ⟨W.heap.size, 10, none⟩ = some (.int .i64 got) ∧ w'.cell? ⟨W.heap.size, 11, none⟩ = some (.int .i64 back_) ∧ w'.cell? ⟨W.heap.size, 12, none⟩ = some (.int .i64 glob) ∧ w'.cell? ⟨W.heap.size, 13, none⟩ = some (.int .i64 tai)) (by kernel_rfl) (by kernel_rfl) (reads14 HX3.out.drew) (fun hHeld => ?_)
    simp only [List.map_cons, List.map_nil, List.getElem?_toArray, List.getElem?_cons_zero, List.getElem?_cons_succ]
    repeat (first | (refine seq_skip (by rfl) ?_; try simp only [Act.put, List.setIfInBounds_toArray, List.set_cons_zero, List.set_cons_succ]) | (refine seq_not (by rfl) (by assumption) ?_; try simp only [Act.put, List.setIfInBounds_toArray, List.set_cons_zero, List.set_cons_succ]) | (refine seq_take (v := ?_) (by rfl) ?_ ?_; rotate_left; (focus ((intro w hSw; (try dsimp only at hSw); go_simp; (try with_reducible rfl)); done)); try simp only [Act.put, List.setIfInBounds_toArray, List.set_cons_zero, List.set_cons_succ]))
    refine seq_do (fun K hK => ?_)
    go_simp
    go_at_call 18
    (with_reducible refine Calls.mono (CG.out _) ?_)
    rintro e w5 ⟨rfl, hb5⟩
    have HX5 := Lib.hid (HX3.out.drew.keeps hb5)
    have HB5 := Lib.hid ((Pn.below_drew_ HB3.out).trans (hb5.mono HB3.out.size))
    have HR5 := Lib.hid (HR3.out.drew.below hb5)
    dsimp only
    refine hK.out _ _ (reads14 HX5.out) (fun hHeld2 => ?_)
    clear hK K hHeld hb5
    repeat (first | (refine seq_skip (by rfl) ?_; try simp only [Act.put, List.setIfInBounds_toArray, List.set_cons_zero, List.set_cons_succ]) | (refine seq_not (by rfl) (by assumption) ?_; try simp only [Act.put, List.setIfInBounds_toArray, List.set_cons_zero, List.set_cons_succ]) | (refine seq_take (v := ?_) (by rfl) ?_ ?_; rotate_left; (focus ((intro w hSw; (try dsimp only at hSw); go_simp; (try with_reducible rfl)); done)); try simp only [Act.put, List.setIfInBounds_toArray, List.set_cons_zero, List.set_cons_succ]))
    refine seq_do (fun K hK => ?_)
    go_simp
    go_at_call 17
    (with_reducible refine Calls.mono (CGR.out _) ?_)
    rintro e w6 ⟨rfl, hb6⟩
    have HX6 := Lib.hid (HX5.out.keeps hb6)
    have HB6 := Lib.hid (HB5.out.trans (hb6.mono HB5.out.size))
    have HR6 := Lib.hid (HR5.out.below hb6)
    dsimp only
    refine hK.out _ _ (reads14 HX6.out) (fun hHeld3 => ?_)
    clear hK K hHeld2 hb6
    repeat (first | (refine seq_skip (by rfl) ?_; try simp only [Act.put, List.setIfInBounds_toArray, List.set_cons_zero, List.set_cons_succ]) | (refine seq_not (by rfl) (by assumption) ?_; try simp only [Act.put, List.setIfInBounds_toArray, List.set_cons_zero, List.set_cons_succ]) | (refine seq_take (v := ?_) (by rfl) ?_ ?_; rotate_left; (focus ((intro w hSw; (try dsimp only at hSw); go_simp; (try with_reducible rfl)); done)); try simp only [Act.put, List.setIfInBounds_toArray, List.set_cons_zero, List.set_cons_succ]))
    refine seq_do (fun K hK => ?_)
    go_simp
    (with_reducible refine Calls.mono (CS.out _) ?_)
    rintro e w7 ⟨rfl, hb7⟩
    have HX7 := Lib.hid (HX6.out.keeps hb7)
    have HB7 := Lib.hid (HB6.out.trans (hb7.mono HB6.out.size))
    have HR7 := Lib.hid (HR6.out.below hb7)
    dsimp only
    refine hK.out _ _ (reads14 HX7.out) (fun hHeld4 => ?_)
    clear hK K hHeld3 hb7
    repeat (first | (refine seq_skip (by rfl) ?_; try simp only [Act.put, List.setIfInBounds_toArray, List.set_cons_zero, List.set_cons_succ]) | (refine seq_not (by rfl) (by assumption) ?_; try simp only [Act.put, List.setIfInBounds_toArray, List.set_cons_zero, List.set_cons_succ]) | (refine seq_take (v := ?_) (by rfl) ?_ ?_; rotate_left; (focus ((intro w hSw; (try dsimp only at hSw); go_simp; (try with_reducible rfl)); done)); try simp only [Act.put, List.setIfInBounds_toArray, List.set_cons_zero, List.set_cons_succ]))
    refine seq_done ?_
    clear hHeld4
    obtain ⟨c0, c1, c2, c3, c4, c5, c6, c7, c8, c9, c10, c11, c12, c13⟩ := reads14 HX7.out
    cases GP
    · obtain ⟨rfl, rfl⟩ := HEB.out rfl
      have hl0 : ([] : List Int).length = 0 := rfl
      go_wp2_with (go_at_call 17; (with_reducible refine Calls.mono (CGR.out _) ?_); rintro e w8 ⟨rfl, hb8⟩; have HB8 := Lib.hid (HB7.out.trans (hb8.mono HB7.out.size)); clear hb8)
      go_ret
      exact ⟨rfl, HB8.out⟩
    · have hE1 := HEZ.out.2 rfl
      subst hE1
      have CB := Lib.hid (CBY.out rfl)
      go_wp2_with (go_at_call 17; (with_reducible refine Calls.mono (CGR.out _) ?_); rintro e w8 ⟨rfl, hb8⟩; have HB8 := Lib.hid (HB7.out.trans (hb8.mono HB7.out.size)); have HX8 := Lib.hid (HX7.out.keeps hb8); have HR8 := Lib.hid (HR7.out.below hb8); clear hb8)
      clear c0 c1 c2 c3 c4 c5 c6 c7 c8 c9 c10 c11 c12 c13
      refine wp_region_seq [(0, true), (1, true), (2, true), (3, true), (4, true), (5, true), (6, false), (7, false), (8, false), (9, false), (10, false)] (fun w' => (w'.cell? ⟨W.heap.size, 0, none⟩ = some (.int .i64 kind) ∧ w'.cell? ⟨W.heap.size, 1, none⟩ = some (.int .i64 from_) ∧ w'.cell? ⟨W.heap.size, 2, none⟩ = some (.int .i64 to_) ∧ w'.cell? ⟨W.heap.size, 3, none⟩ = some (.int .i64 root) ∧ w'.cell? ⟨W.heap.size, 4, none⟩ = some (.int .u16 boot) ∧ w'.cell? ⟨W.heap.size, 5, none⟩ = some (.int .u16 seq) ∧ w'.cell? ⟨W.heap.size, 6, none⟩ = some (.int .i64 hops) ∧ w'.cell? ⟨W.heap.size, 7, none⟩ = some (.int .i64 time) ∧ w'.cell? ⟨W.heap.size, 8, none⟩ = some (.int .i64 level) ∧ w'.cell? ⟨W.heap.size, 9, none⟩ = some (.int .i64 sent) ∧ w'.cell? ⟨W.heap.size, 10, none⟩ = some (.int .i64 got) ∧ w'.cell? ⟨W.heap.size, 11, none⟩ = some (.int .i64 back_) ∧ w'.cell? ⟨W.heap.size, 12, none⟩ = some (.int .i64 glob) ∧ w'.cell? ⟨W.heap.size, 13, none⟩ = some (.int .i64 tai)) ∧ (convert 22 9 (.slice A3 L.length d3)).run Try.prog w' = .ok (.string (str L)) w') (by kernel_rfl) (by kernel_rfl) ⟨reads14 HX8.out.drew, str_at HR8.out.drew d3 L.length rfl⟩ (fun hHeld => ?_)
      simp only [List.map_cons, List.map_nil, List.getElem?_toArray, List.getElem?_cons_zero, List.getElem?_cons_succ]
      repeat (first | (refine seq_skip (by rfl) ?_; try simp only [Act.put, List.setIfInBounds_toArray, List.set_cons_zero, List.set_cons_succ]) | (refine seq_not (by rfl) (by assumption) ?_; try simp only [Act.put, List.setIfInBounds_toArray, List.set_cons_zero, List.set_cons_succ]) | (refine seq_take (v := ?_) (by rfl) ?_ ?_; rotate_left; (focus ((intro w hSw; (try dsimp only at hSw); go_simp; (try with_reducible rfl)); done)); try simp only [Act.put, List.setIfInBounds_toArray, List.set_cons_zero, List.set_cons_succ]))
      refine seq_do (fun K hK => ?_)
      go_simp
      go_at_call 19
      (with_reducible refine Calls.mono (CB.out _) ?_)
      rintro e w9 ⟨⟨v9, rfl, ho9⟩, hb9⟩
      obtain ⟨A9, c9, rfl, hc9, hr9⟩ := ho9.ri
      have HX9 := Lib.hid (HX8.out.drew.keeps hb9)
      have HB9 := Lib.hid ((Pn.below_drew_ HB8.out).trans (hb9.mono HB8.out.size))
      have HS9 := Lib.hid (str_at (HR8.out.drew.below hb9) d3 L.length rfl)
      have hs9 := str_at hr9 c9 L.length rfl
      dsimp only
      refine hK.out _ _ ⟨reads14 HX9.out, HS9.out⟩ (fun hHeld2 => ?_)
      clear hK K hHeld hb9 ho9 hc9 hr9
      refine seq_do (fun K hK => ?_)
      go_simp
      refine hK.out _ _ ⟨reads14 HX9.out, HS9.out⟩ (fun _ => ?_)
      clear hK K
      refine seq_do (fun K hK => ?_)
      go_simp
      refine hK.out _ _ ⟨reads14 HX9.out, HS9.out⟩ (fun _ => ?_)
      clear hK K
      refine seq_do (fun K hK => ?_)
      go_simp
      refine hK.out _ _ ⟨reads14 HX9.out, HS9.out⟩ (fun _ => ?_)
      clear hK K
      refine seq_do (fun K hK => ?_)
      go_simp
      refine hK.out _ _ ⟨reads14 HX9.out, HS9.out⟩ (fun _ => ?_)
      clear hK K
      refine seq_done ?_
      go_wp2
      go_ret
      exact ⟨by simp, HB9.out⟩
  · obtain ⟨rfl, rfl⟩ := HOUT.out hin
    obtain ⟨rfl, rfl⟩ := HEB.out rfl
    have hl0 : ([] : List Int).length = 0 := rfl
    clear hin HSN HOUT
    obtain ⟨kind, from_, to_, root, boot, seq, hops, time, level, sent, got, back_, glob, tai⟩ := p
    simp only [Pl.v, Pl.cs] at *
    go_enter Try.func8, Try.ntmps8
    go_wp2_with (first
      | (go_at_call 9
         (with_reducible refine Calls.mono CA.out ?_)
         rintro e w1 ⟨rfl, hb1⟩
         obtain ⟨c0, c1, c2, c3, c4, c5, c6, c7, c8, c9, c10, c11, c12, c13⟩ := reads14 (HX.out.keeps hb1)
         have HX1 := Lib.hid (HX.out.keeps hb1)
         have HB1 := Lib.hid (HB0.out.trans (hb1.mono HB0.out.size))
         clear hb1 CA)
      | (go_at_call 14
         (with_reducible refine Calls.mono (CO.out _) ?_)
         rintro e w2 ⟨rfl, hb2⟩
         have HX2 := Lib.hid (HX1.out.keeps hb2)
         have HB2 := Lib.hid (HB1.out.trans (hb2.mono HB1.out.size))
         clear hb2)
      | (go_at_call 13
         (with_reducible refine Calls.mono (CE.out _) ?_)
         rintro e w3 ⟨⟨v3, rfl, ho3⟩, hb3⟩
         have HX3 := Lib.hid (HX2.out.keeps hb3)
         have HB3 := Lib.hid (HB2.out.trans (hb3.mono HB2.out.size))
         have HO3 := Lib.hid (ho3.lower HB2.out.size)
         obtain ⟨A3, d3, rfl, hc3, hr3⟩ := ho3.ri
         have HR3 := Lib.hid hr3
         have HC3 := Lib.hid hc3
         clear ho3 hb3 hr3)
      | fail)
    clear c0 c1 c2 c3 c4 c5 c6 c7 c8 c9 c10 c11 c12 c13
    refine wp_region_seq [(0, true), (2, true), (1, false), (3, false), (4, true), (5, true), (6, true), (7, true), (8, true), (9, true), (11, true), (12, true), (10, false), (13, true), (14, true), (15, true)] (fun w' => w'.cell? ⟨W.heap.size, 0, none⟩ = some (.int .i64 kind) ∧ w'.cell? ⟨W.heap.size, 1, none⟩ = some (.int .i64 from_) ∧ w'.cell? ⟨W.heap.size, 2, none⟩ = some (.int .i64 to_) ∧ w'.cell? ⟨W.heap.size, 3, none⟩ = some (.int .i64 root) ∧ w'.cell? ⟨W.heap.size, 4, none⟩ = some (.int .u16 boot) ∧ w'.cell? ⟨W.heap.size, 5, none⟩ = some (.int .u16 seq) ∧ w'.cell? ⟨W.heap.size, 6, none⟩ = some (.int .i64 hops) ∧ w'.cell? ⟨W.heap.size, 7, none⟩ = some (.int .i64 time) ∧ w'.cell? ⟨W.heap.size, 8, none⟩ = some (.int .i64 level) ∧ w'.cell? ⟨W.heap.size, 9, none⟩ = some (.int .i64 sent) ∧ w'.cell? ⟨W.heap.size, 10, none⟩ = some (.int .i64 got) ∧ w'.cell? ⟨W.heap.size, 11, none⟩ = some (.int .i64 back_) ∧ w'.cell? ⟨W.heap.size, 12, none⟩ = some (.int .i64 glob) ∧ w'.cell? ⟨W.heap.size, 13, none⟩ = some (.int .i64 tai)) (by kernel_rfl) (by kernel_rfl) (reads14 HX3.out.drew) (fun hHeld => ?_)
    simp only [List.map_cons, List.map_nil, List.getElem?_toArray, List.getElem?_cons_zero, List.getElem?_cons_succ]
    repeat (first | (refine seq_skip (by rfl) ?_; try simp only [Act.put, List.setIfInBounds_toArray, List.set_cons_zero, List.set_cons_succ]) | (refine seq_not (by rfl) (by assumption) ?_; try simp only [Act.put, List.setIfInBounds_toArray, List.set_cons_zero, List.set_cons_succ]) | (refine seq_take (v := ?_) (by rfl) ?_ ?_; rotate_left; (focus ((intro w hSw; (try dsimp only at hSw); go_simp; (try with_reducible rfl)); done)); try simp only [Act.put, List.setIfInBounds_toArray, List.set_cons_zero, List.set_cons_succ]))
    refine seq_do (fun K hK => ?_)
    go_simp
    go_at_call 18
    (with_reducible refine Calls.mono (CG.out _) ?_)
    rintro e w5 ⟨rfl, hb5⟩
    have HX5 := Lib.hid (HX3.out.drew.keeps hb5)
    have HB5 := Lib.hid ((Pn.below_drew_ HB3.out).trans (hb5.mono HB3.out.size))
    dsimp only
    refine hK.out _ _ (reads14 HX5.out) (fun hHeld2 => ?_)
    clear hK K hHeld hb5
    repeat (first | (refine seq_skip (by rfl) ?_; try simp only [Act.put, List.setIfInBounds_toArray, List.set_cons_zero, List.set_cons_succ]) | (refine seq_not (by rfl) (by assumption) ?_; try simp only [Act.put, List.setIfInBounds_toArray, List.set_cons_zero, List.set_cons_succ]) | (refine seq_take (v := ?_) (by rfl) ?_ ?_; rotate_left; (focus ((intro w hSw; (try dsimp only at hSw); go_simp; (try with_reducible rfl)); done)); try simp only [Act.put, List.setIfInBounds_toArray, List.set_cons_zero, List.set_cons_succ]))
    refine seq_do (fun K hK => ?_)
    go_simp
    go_at_call 17
    (with_reducible refine Calls.mono (CGR.out _) ?_)
    rintro e w6 ⟨rfl, hb6⟩
    have HX6 := Lib.hid (HX5.out.keeps hb6)
    have HB6 := Lib.hid (HB5.out.trans (hb6.mono HB5.out.size))
    dsimp only
    refine hK.out _ _ (reads14 HX6.out) (fun hHeld3 => ?_)
    clear hK K hHeld2 hb6
    repeat (first | (refine seq_skip (by rfl) ?_; try simp only [Act.put, List.setIfInBounds_toArray, List.set_cons_zero, List.set_cons_succ]) | (refine seq_not (by rfl) (by assumption) ?_; try simp only [Act.put, List.setIfInBounds_toArray, List.set_cons_zero, List.set_cons_succ]) | (refine seq_take (v := ?_) (by rfl) ?_ ?_; rotate_left; (focus ((intro w hSw; (try dsimp only at hSw); go_simp; (try with_reducible rfl)); done)); try simp only [Act.put, List.setIfInBounds_toArray, List.set_cons_zero, List.set_cons_succ]))
    refine seq_done ?_
    clear hHeld3
    obtain ⟨c0, c1, c2, c3, c4, c5, c6, c7, c8, c9, c10, c11, c12, c13⟩ := reads14 HX6.out
    go_wp2_with (go_at_call 17; (with_reducible refine Calls.mono (CGR.out _) ?_); rintro e w8 ⟨rfl, hb8⟩; have HB8 := Lib.hid (HB6.out.trans (hb8.mono HB6.out.size)); clear hb8)
    go_ret
    exact ⟨rfl, HB8.out⟩
set_option linter.unusedVariables false in
theorem walk (a0_0 : Int) (a0_1 : Int) (a0_2 : Int) (a0_3 : Int) (a0_4 : Int) (a0_5 : Int) (a0_6 : Int) (a0_7 : Int) (a0_8 : Int) (a0_9 : Int) (a0_10 : Int) (a0_11 : Int) (a0_12 : Int) (a0_13 : Int) (W : World) (w0_0 : (Lit.int .i64 a0_0).wf = true) (w0_1 : (Lit.int .i64 a0_1).wf = true) (w0_2 : (Lit.int .i64 a0_2).wf = true) (w0_3 : (Lit.int .i64 a0_3).wf = true) (w0_4 : (Lit.int .u16 a0_4).wf = true) (w0_5 : (Lit.int .u16 a0_5).wf = true) (w0_6 : (Lit.int .i64 a0_6).wf = true) (w0_7 : (Lit.int .i64 a0_7).wf = true) (w0_8 : (Lit.int .i64 a0_8).wf = true) (w0_9 : (Lit.int .i64 a0_9).wf = true) (w0_10 : (Lit.int .i64 a0_10).wf = true) (w0_11 : (Lit.int .i64 a0_11).wf = true) (w0_12 : (Lit.int .i64 a0_12).wf = true) (w0_13 : (Lit.int .i64 a0_13).wf = true) :
    Calls Try.prog 8 #[.agg #[.int .i64 a0_0, .int .i64 a0_1, .int .i64 a0_2, .int .i64 a0_3, .int .u16 a0_4, .int .u16 a0_5, .int .i64 a0_6, .int .i64 a0_7, .int .i64 a0_8, .int .i64 a0_9, .int .i64 a0_10, .int .i64 a0_11, .int .i64 a0_12, .int .i64 a0_13]] W fun e w' => e = .returned (.bool true) ∧ Below W.heap.size W w' := by
  exact core ⟨a0_0, a0_1, a0_2, a0_3, a0_4, a0_5, a0_6, a0_7, a0_8, a0_9, a0_10, a0_11, a0_12, a0_13⟩ (oks_wf w0_4 w0_5) W
end Go.Proofs.Ytjkngcpmcmffmaa.FrameWritesW
