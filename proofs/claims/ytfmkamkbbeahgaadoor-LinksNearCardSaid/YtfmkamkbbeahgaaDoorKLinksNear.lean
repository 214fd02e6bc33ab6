/- Proves: the law LinksNear's function answers true at every input, and changes nothing that was there; over the table that the library lays. -/
import Derived.Test.YtfmkamkbbeahgaaDoorLa
import Derived.Test.YtfmkamkbbeahgaaDoorSc
import Derived.Test.YtfmkamkbbeahgaaDoorRf
import Derived.Test.YtfmkamkbbeahgaaDoorLf
import Derived.Test.YtfmkamkbbeahgaaDoorSq
namespace Go.Proofs.YtfmkamkbbeahgaaDoor.LinksNearW
open Go.RowKit Go.Proofs.YtfmkamkbbeahgaaDoor.Sq Go.Proofs.YtfmkamkbbeahgaaDoor.Bk Go.Proofs.YtfmkamkbbeahgaaDoor.Rw Go.Proofs.YtfmkamkbbeahgaaDoor.Ow Go.Proofs.YtfmkamkbbeahgaaDoor.Kp Go.Proofs.YtfmkamkbbeahgaaDoor.Bl Go.Proofs.YtfmkamkbbeahgaaDoor.Tz Go.Proofs.YtfmkamkbbeahgaaDoor.Lk Go.Proofs.YtfmkamkbbeahgaaDoor.Hm Go.Proofs.YtfmkamkbbeahgaaDoor.Ho Go.Proofs.YtfmkamkbbeahgaaDoor.Bm Go.Proofs.YtfmkamkbbeahgaaDoor.Sc Go.Proofs.YtfmkamkbbeahgaaDoor.La
theorem elem1 {w : World} {A : Option Addr} {len : Nat} {vs : List (List Value)} (h : Lf.RowsAt w [.i .i64, .i .i64, .b] A len vs) {k : Nat} (hk : k < len) :
    ∃ (ad : Addr) (x0 : Int) (x1 : Int) (x2 : Bool), A = some ad ∧ vs[k]? = some [.int .i64 x0, .int .i64 x1, .bool x2] ∧ w.cell? (ad.add (k * 3)) = some (.int .i64 x0) ∧ w.cell? ⟨(ad.add (k * 3)).block, (ad.add (k * 3)).off + 1, none⟩ = some (.int .i64 x1) ∧ w.cell? ⟨(ad.add (k * 3)).block, (ad.add (k * 3)).off + 2, none⟩ = some (.bool x2) ∧ (Lit.int .i64 x0).wf = true ∧ (Lit.int .i64 x1).wf = true := by
  obtain ⟨ad, c, rfl, hv, hL, hc0, hcj⟩ := h.elem hk
  obtain ⟨u0, g0, q0, ⟨x0, e0, f0⟩, L0⟩ := hL.cons
  obtain ⟨u1, g1, q1, ⟨x1, e1, f1⟩, L1⟩ := L0.cons
  obtain ⟨u2, g2, q2, ⟨x2, e2⟩, L2⟩ := L1.cons
  have n_ := L2.nil
  have hcc : c = [.int .i64 x0, .int .i64 x1, .bool x2] := by rw [q0, e0, q1, e1, q2, e2, n_]
  rw [hcc] at hv hc0 hcj
  exact ⟨ad, x0, x1, x2, rfl, hv, hc0 _ rfl, hcj 0 _ rfl, hcj 1 _ rfl, f0, f1⟩
set_option maxRecDepth 100000 in
set_option maxHeartbeats 1000000 in
theorem walk (a0 : Int) (a1 : Option Addr) (len1 cap1 : Nat) (z1 : List (List Value)) (a2 : Int) (W : World) (w0 : (Lit.int .i64 a0).wf = true) (l1 : len1 ≤ cap1) (m1 : cap1 ≤ maxLen) (w1 : Lf.RowsAt W [.i .i64, .i .i64, .b] a1 len1 z1) (w2 : (Lit.int .i64 a2).wf = true) (wL : Go.Proofs.YtfmkamkbbeahgaaDoor.Tz.Tab W) :
    Calls Tryd.prog 5 #[.int .i64 a0, .slice a1 len1 cap1, .int .i64 a2] W fun e w' => e = .returned (.bool true) ∧ Below W.heap.size W w' := by
  have u0 : -9223372036854775808 ≤ a0 ∧ a0 ≤ 9223372036854775807 := by
    have h := w0
    simp only [Lit.wf, Bool.and_eq_true, decide_eq_true_eq] at h
    exact ⟨h.1, h.2⟩
  have HT := Lib.hid wL
  have CA := Lib.hid (alive_ok W wL)
  have HW := Lib.hid w1
  have hw0 := wL.1
  clear wL w0 w1
  by_cases h1 : a0 < 1
  · go_enter Tryd.func5, Tryd.ntmps5
    go_wp2_with (go_at_call 9; (with_reducible refine Calls.mono CA.out ?_); rintro e wa ⟨rfl, hb⟩; have HBa := Lib.hid hb; clear hb)
    go_ret
    exact ⟨rfl, HBa.out⟩
  by_cases h2 : 64 < a0
  · go_enter Tryd.func5, Tryd.ntmps5
    go_wp2_with (go_at_call 9; (with_reducible refine Calls.mono CA.out ?_); rintro e wa ⟨rfl, hb⟩; have HBa := Lib.hid hb; clear hb)
    go_ret
    exact ⟨rfl, HBa.out⟩
  by_cases h3 : 100 < len1
  · have h4 : (100 : Int) < (len1 : Int) := by omega
    go_enter Tryd.func5, Tryd.ntmps5
    go_wp2_with (go_at_call 9; (with_reducible refine Calls.mono CA.out ?_); rintro e wa ⟨rfl, hb⟩; have HBa := Lib.hid hb; clear hb)
    go_ret
    exact ⟨rfl, HBa.out⟩
  obtain ⟨n, rfl⟩ : ∃ n : Nat, a0 = n := ⟨a0.toNat, by omega⟩
  have h4 : ¬ (100 : Int) < (len1 : Int) := by omega
  go_enter Tryd.func5, Tryd.ntmps5
  go_wp2_with (go_at_call 9; (with_reducible refine Calls.mono CA.out ?_); rintro e wa ⟨rfl, hb⟩; have HBa := Lib.hid hb; clear hb)
  have CN := Lib.hid (new_ok n wa (by omega) (by omega))
  go_wp2_with (go_at_call 13; (with_reducible refine Calls.mono CN.out ?_); rintro e w1 ⟨p, g, rfl, hL, hp, hg, hb⟩)
  have HB1 := Lib.hid (HBa.out.trans (hb.mono HBa.out.size))
  have HL1 := Lib.hid hL
  have hsa := HBa.out.size
  clear hb hL CN CA HBa
  go_wp2
  go_loopw [34] (fun i wr => ∃ k : Nat, k ≤ len1 ∧ i = .int .i64 k ∧ Ln wr p g (run (List.replicate n 0) (z1.take k)) ∧ Below W.heap.size W wr) (fun i _ => len1 - (intOf i).toNat)
  case atStart => exact ⟨0, Nat.zero_le _, rfl, HL1.out, HB1.out⟩
  case round =>
    obtain ⟨k, hk, rfl, hL, hB⟩ := hrel
    by_cases hlt : k < len1
    · have n1 : (k : Int) < (len1 : Int) := by omega
      obtain ⟨ad, x0, x1, x2, rfl, hv, t0, t1, t2, _, _⟩ := elem1 (HW.out.below hB) hlt
      have HV := Lib.hid hv
      have HL2 := Lib.hid (hL.below ((Below.refl _ wr).alloc (Nat.le_refl _) (.cells #[.int .i64 x0, .int .i64 x1, .bool x2] 34)))
      have HB2 := Lib.hid (hB.alloc hB.size (.cells #[.int .i64 x0, .int .i64 x1, .bool x2] 34))
      have CS := Lib.hid (set_any p g _ x0 x1 x2 _ HL2.out)
      have s0 := (Blk.new wr 34 #[.int .i64 x0, .int .i64 x1, .bool x2]).cell 0
      have s1 := (Blk.new wr 34 #[.int .i64 x0, .int .i64 x1, .bool x2]).cell 1
      have s2 := (Blk.new wr 34 #[.int .i64 x0, .int .i64 x1, .bool x2]).cell 2
      clear hL hB hv
      go_wp2_with (go_at_call 14; (with_reducible refine Calls.mono CS.out ?_); rintro e w3 ⟨rfl, hL3, hk3⟩)
      go_roundw
      case rel => exact ⟨k + 1, by omega, by go_num, by rw [run_snoc HV.out]; exact hL3, below_kp HB2.out HB2.out.size hk3 (fun b hb => by omega)⟩
      case measure => simp [intOf]; omega
    · have hke : k = len1 := by omega
      subst hke
      rw [List.take_of_length_le (Nat.le_of_eq HW.out.1)] at hL
      have hsy : Sy (run (List.replicate n 0) z1) := Sy.run z1 (Sy.none n) (by simp; omega)
      have hal : (run (List.replicate n 0) z1).length = n := by rw [run_length, List.length_replicate]
      generalize run (List.replicate n 0) z1 = a at hL hsy hal
      have HLr := Lib.hid hL
      have HBr := Lib.hid hB
      have HTr := Lib.hid (HT.out.below hB hw0)
      have CH := Lib.hid (show Calls Tryd.prog 15 #[.pointer (some ⟨p, 0, none⟩), .int .i64 a2, .int .u64 18446744073709551615] wr fun e w' => (∃ b, e = .returned (.slice (some ⟨b, 0, none⟩) n n) ∧ Blk w' b 3 ((hops a a2 18446744073709551615).map (Value.int .i64)).toArray ∧ wr.heap.size ≤ b) ∧ Below wr.heap.size wr w' by rw [← hal]; exact hops_ok p g a a2 18446744073709551615 wr hL (by decide) HTr.out)
      clear hL hB HL1 HB1
      go_wp2_with (go_at_call 15; (with_reducible refine Calls.mono CH.out ?_); rintro e w5 ⟨⟨b, rfl, hbk, hbn⟩, hb5⟩)
      have hHl : (hops a a2 18446744073709551615).length = n := by rw [hops_length, hal]
      have HR := Lib.hid (hops_range (a := a) (by omega) a2 18446744073709551615)
      have HNR := Lib.hid (fun i k hb => near_law hsy (by omega) a2 (i := i) (k := k) hb)
      have HST := Lib.hid (fun (f : Nat) (hf : f < a.length) => start_law (a := a) (by omega) hf)
      have HL5 := Lib.hid (HLr.out.below hb5)
      have HB5 := Lib.hid (HBr.out.trans (hb5.mono HBr.out.size))
      have HK5 := Lib.hid hbk
      have HSY := Lib.hid hsy
      clear hb5 hbk CH HLr HBr hsy
      go_loopw [12] (fun i wr => ∃ x : Nat, x ≤ n ∧ i = .int .i64 x ∧ Ln wr p g a ∧ Blk wr b 3 ((hops a a2 18446744073709551615).map (Value.int .i64)).toArray ∧ Below W.heap.size W wr) (fun i _ => n - (intOf i).toNat)
      case atStart => exact ⟨0, Nat.zero_le _, rfl, HL5.out, HK5.out, HB5.out⟩
      case round =>
        obtain ⟨x, hx, rfl, hLx, hKx, hBx⟩ := hrel
        by_cases hxn : x < n
        · have xn : (x : Int) < (n : Int) := by omega
          have HLx := Lib.hid hLx
          have HKx := Lib.hid hKx
          have HBx := Lib.hid hBx
          clear hLx hKx hBx HL5 HK5 HB5
          go_wp2
          go_loopw [13] (fun i wr => ∃ y : Nat, y ≤ n ∧ i = .int .i64 y ∧ Ln wr p g a ∧ Blk wr b 3 ((hops a a2 18446744073709551615).map (Value.int .i64)).toArray ∧ Below W.heap.size W wr) (fun i _ => n - (intOf i).toNat)
          case atStart => exact ⟨0, Nat.zero_le _, rfl, HLx.out, HKx.out, HBx.out⟩
          case round =>
            obtain ⟨y, hy, rfl, hLy, hKy, hBy⟩ := hrel
            by_cases hyn : y < n
            · have yn : (y : Int) < (n : Int) := by omega
              have C1 := Lib.hid (has_nat p g a x y (by omega) (by omega) wr hLy)
              have C2 := Lib.hid (has_nat p g a y x (by omega) (by omega) wr hLy)
              have C3 := Lib.hid (has_nat p g a x y (by omega) (by omega) wr.drew hLy.drew_)
              rw [HSY.out.both y x] at C2
              have HLy := Lib.hid hLy.drew_
              have HKy := Lib.hid hKy.drew
              have HBy := Lib.hid (hBy.drew)
              have k1 : wr.drew.cell? ⟨b, x, none⟩ = some (.int .i64 ((hops a a2 18446744073709551615).getD x (-1))) := by
                rw [hKy.drew.cell x]
                simp [List.getD_eq_getElem?_getD, List.getElem?_eq_getElem (show x < (hops a a2 18446744073709551615).length by omega)]
              have k2 : wr.drew.cell? ⟨b, y, none⟩ = some (.int .i64 ((hops a a2 18446744073709551615).getD y (-1))) := by
                rw [hKy.drew.cell y]
                simp [List.getD_eq_getElem?_getD, List.getElem?_eq_getElem (show y < (hops a a2 18446744073709551615).length by omega)]
              have r1 := HR.out x (by omega)
              have r2 := HR.out y (by omega)
              have nr := HNR.out x y
              clear hLy hKy hBy
              generalize (hops a a2 18446744073709551615).getD x (-1) = hxv at k1 r1 nr
              generalize (hops a a2 18446744073709551615).getD y (-1) = hyv at k2 r2 nr
              cases hb : B a x y with
              | false =>
                rw [hb] at C1 C2 C3
                clear hb nr
                go_wp2_with (first
                  | (go_at_call 16; (with_reducible refine Calls.mono C1.out ?_); rintro e w8 ⟨rfl, rfl⟩)
                  | (go_at_call 16; (with_reducible refine Calls.mono C2.out ?_); rintro e w8 ⟨rfl, rfl⟩))
                refine wp_region_seq [(0, true), (1, true), (2, true), (3, false), (4, true), (5, true), (6, true), (7, true), (8, true), (9, true), (10, true), (11, true), (12, true), (13, true), (14, true), (15, true), (16, true), (17, true), (18, true), (19, true), (20, true), (21, true), (22, true), (23, true), (24, true), (25, true), (26, true), (27, true), (28, true), (29, true), (30, true), (31, true), (32, true), (33, true), (34, true), (35, true), (36, true), (37, true), (38, true), (39, true), (40, true)] (fun w' => w'.cell? ⟨b, x, none⟩ = some (.int .i64 hxv) ∧ w'.cell? ⟨b, y, none⟩ = some (.int .i64 hyv)) (by kernel_rfl) (by kernel_rfl) ⟨k1, k2⟩ (fun hHeld1 => ?_)
                clear hHeld1
                simp only [List.map_cons, List.map_nil, List.getElem?_toArray, List.getElem?_cons_zero, List.getElem?_cons_succ]
                repeat (first | (refine seq_skip (by rfl) ?_; try simp only [Act.put, List.setIfInBounds_toArray, List.set_cons_zero, List.set_cons_succ]) | (refine seq_not (by rfl) (by assumption) ?_; try simp only [Act.put, List.setIfInBounds_toArray, List.set_cons_zero, List.set_cons_succ]) | (refine seq_take (v := ?_) (by rfl) ?_ ?_; rotate_left; (focus ((intro w hSw; (try dsimp only at hSw); go_simp; (try with_reducible rfl)); done)); try simp only [Act.put, List.setIfInBounds_toArray, List.set_cons_zero, List.set_cons_succ]))
                refine seq_do (fun K hK => ?_)
                go_simp
                go_at_call 16
                (with_reducible refine Calls.mono C3.out ?_)
                rintro e w8 ⟨rfl, rfl⟩
                dsimp only
                refine hK.out _ _ ⟨k1, k2⟩ (fun hHeld2 => ?_)
                clear hK K hHeld2
                repeat (first | (refine seq_skip (by rfl) ?_; try simp only [Act.put, List.setIfInBounds_toArray, List.set_cons_zero, List.set_cons_succ]) | (refine seq_not (by rfl) (by assumption) ?_; try simp only [Act.put, List.setIfInBounds_toArray, List.set_cons_zero, List.set_cons_succ]) | (refine seq_take (v := ?_) (by rfl) ?_ ?_; rotate_left; (focus ((intro w hSw; (try dsimp only at hSw); go_simp; (try with_reducible rfl)); done)); try simp only [Act.put, List.setIfInBounds_toArray, List.set_cons_zero, List.set_cons_succ]))
                refine seq_done ?_
                go_wp2
                go_roundw
                case rel => exact ⟨y + 1, by omega, by go_num, HLy.out, HKy.out, HBy.out⟩
                case measure => simp [intOf]; omega
              | true =>
                rw [hb] at C1 C2 C3
                have nr := nr hb
                clear hb
                have q1 : ¬ (hyv + 1 < hxv) := by omega
                have q2 : ¬ (hxv + 1 < hyv) := by omega
                have q3 : IntKind.i64.wrap (hyv + 1) = hyv + 1 := by rw [IntKind.wrap_i64]; omega
                have q4 : IntKind.i64.wrap (hxv + 1) = hxv + 1 := by rw [IntKind.wrap_i64]; omega
                have d1 : decide (hyv + 1 < hxv) = false := by simpa using q1
                have d2 : decide (hxv + 1 < hyv) = false := by simpa using q2
                by_cases hneg : hxv < 0
                · have hneg2 : hyv < 0 := nr.1.1 hneg
                  have d3 : decide (hxv < 0) = true := by simpa using hneg
                  have d4 : decide (hyv < 0) = true := by simpa using hneg2
                  clear nr
                  go_wp2_with (first
                    | (go_at_call 16; (with_reducible refine Calls.mono C1.out ?_); rintro e w8 ⟨rfl, rfl⟩)
                    | (go_at_call 16; (with_reducible refine Calls.mono C2.out ?_); rintro e w8 ⟨rfl, rfl⟩))
                  refine wp_region_seq [(0, true), (1, true), (2, true), (3, false), (4, true), (5, true), (6, true), (7, true), (8, true), (9, true), (10, true), (11, true), (12, true), (13, true), (14, true), (15, true), (16, true), (17, true), (18, true), (19, true), (20, true), (21, true), (22, true), (23, true), (24, true), (25, true), (26, true), (27, true), (28, true), (29, true), (30, true), (31, true), (32, true), (33, true), (34, true), (35, true), (36, true), (37, true), (38, true), (39, true), (40, true)] (fun w' => w'.cell? ⟨b, x, none⟩ = some (.int .i64 hxv) ∧ w'.cell? ⟨b, y, none⟩ = some (.int .i64 hyv)) (by kernel_rfl) (by kernel_rfl) ⟨k1, k2⟩ (fun hHeld1 => ?_)
                  clear hHeld1
                  simp only [List.map_cons, List.map_nil, List.getElem?_toArray, List.getElem?_cons_zero, List.getElem?_cons_succ]
                  repeat (first | (refine seq_skip (by rfl) ?_; try simp only [Act.put, List.setIfInBounds_toArray, List.set_cons_zero, List.set_cons_succ]) | (refine seq_not (by rfl) (by assumption) ?_; try simp only [Act.put, List.setIfInBounds_toArray, List.set_cons_zero, List.set_cons_succ]) | (refine seq_take (v := ?_) (by rfl) ?_ ?_; rotate_left; (focus ((intro w hSw; (try dsimp only at hSw); go_simp; (try with_reducible rfl)); done)); try simp only [Act.put, List.setIfInBounds_toArray, List.set_cons_zero, List.set_cons_succ]))
                  refine seq_do (fun K hK => ?_)
                  go_simp
                  go_at_call 16
                  (with_reducible refine Calls.mono C3.out ?_)
                  rintro e w8 ⟨rfl, rfl⟩
                  dsimp only
                  refine hK.out _ _ ⟨k1, k2⟩ (fun hHeld2 => ?_)
                  clear hK K hHeld2
                  repeat (first | (refine seq_skip (by rfl) ?_; try simp only [Act.put, List.setIfInBounds_toArray, List.set_cons_zero, List.set_cons_succ]) | (refine seq_not (by rfl) (by assumption) ?_; try simp only [Act.put, List.setIfInBounds_toArray, List.set_cons_zero, List.set_cons_succ]) | (refine seq_take (v := ?_) (by rfl) ?_ ?_; rotate_left; (focus ((intro w hSw; (try dsimp only at hSw); go_simp; (try with_reducible rfl)); done)); try simp only [Act.put, List.setIfInBounds_toArray, List.set_cons_zero, List.set_cons_succ]))
                  refine seq_done ?_
                  go_wp2
                  go_roundw
                  case rel => exact ⟨y + 1, by omega, by go_num, HLy.out, HKy.out, HBy.out⟩
                  case measure => simp [intOf]; omega
                · have hneg2 : ¬ hyv < 0 := fun h => hneg (nr.1.2 h)
                  have d3 : decide (hxv < 0) = false := by simpa using hneg
                  have d4 : decide (hyv < 0) = false := by simpa using hneg2
                  clear nr
                  go_wp2_with (first
                    | (go_at_call 16; (with_reducible refine Calls.mono C1.out ?_); rintro e w8 ⟨rfl, rfl⟩)
                    | (go_at_call 16; (with_reducible refine Calls.mono C2.out ?_); rintro e w8 ⟨rfl, rfl⟩))
                  refine wp_region_seq [(0, true), (1, true), (2, true), (3, false), (4, true), (5, true), (6, true), (7, true), (8, true), (9, true), (10, true), (11, true), (12, true), (13, true), (14, true), (15, true), (16, true), (17, true), (18, true), (19, true), (20, true), (21, true), (22, true), (23, true), (24, true), (25, true), (26, true), (27, true), (28, true), (29, true), (30, true), (31, true), (32, true), (33, true), (34, true), (35, true), (36, true), (37, true), (38, true), (39, true), (40, true)] (fun w' => w'.cell? ⟨b, x, none⟩ = some (.int .i64 hxv) ∧ w'.cell? ⟨b, y, none⟩ = some (.int .i64 hyv)) (by kernel_rfl) (by kernel_rfl) ⟨k1, k2⟩ (fun hHeld1 => ?_)
                  clear hHeld1
                  simp only [List.map_cons, List.map_nil, List.getElem?_toArray, List.getElem?_cons_zero, List.getElem?_cons_succ]
                  repeat (first | (refine seq_skip (by rfl) ?_; try simp only [Act.put, List.setIfInBounds_toArray, List.set_cons_zero, List.set_cons_succ]) | (refine seq_not (by rfl) (by assumption) ?_; try simp only [Act.put, List.setIfInBounds_toArray, List.set_cons_zero, List.set_cons_succ]) | (refine seq_take (v := ?_) (by rfl) ?_ ?_; rotate_left; (focus ((intro w hSw; (try dsimp only at hSw); go_simp; (try with_reducible rfl)); done)); try simp only [Act.put, List.setIfInBounds_toArray, List.set_cons_zero, List.set_cons_succ]))
                  refine seq_do (fun K hK => ?_)
                  go_simp
                  go_at_call 16
                  (with_reducible refine Calls.mono C3.out ?_)
                  rintro e w8 ⟨rfl, rfl⟩
                  dsimp only
                  refine hK.out _ _ ⟨k1, k2⟩ (fun hHeld2 => ?_)
                  clear hK K hHeld2
                  repeat (first | (refine seq_skip (by rfl) ?_; try simp only [Act.put, List.setIfInBounds_toArray, List.set_cons_zero, List.set_cons_succ]) | (refine seq_not (by rfl) (by assumption) ?_; try simp only [Act.put, List.setIfInBounds_toArray, List.set_cons_zero, List.set_cons_succ]) | (refine seq_take (v := ?_) (by rfl) ?_ ?_; rotate_left; (focus ((intro w hSw; (try dsimp only at hSw); go_simp; (try with_reducible rfl)); done)); try simp only [Act.put, List.setIfInBounds_toArray, List.set_cons_zero, List.set_cons_succ]))
                  refine seq_done ?_
                  go_wp2
                  go_roundw
                  case rel => exact ⟨y + 1, by omega, by go_num, HLy.out, HKy.out, HBy.out⟩
                  case measure => simp [intOf]; omega
            · have hye : y = n := by omega
              subst hye
              have HLz := Lib.hid hLy
              have HKz := Lib.hid hKy
              have HBz := Lib.hid hBy
              clear hLy hKy hBy
              go_wp2
              go_roundw
              case rel => exact ⟨x + 1, by omega, by go_num, HLz.out, HKz.out, HBz.out⟩
              case measure => simp [intOf]; omega
        · have hxe : x = n := by omega
          subst hxe
          have HBz := Lib.hid hBx
          by_cases c0 : a2 < 0
          · clear hLx hKx hBx
            go_wp2
            go_ret
            exact ⟨rfl, HBz.out⟩
          · by_cases c1 : (x : Int) ≤ a2
            · clear hLx hKx hBx
              go_wp2
              go_ret
              exact ⟨rfl, HBz.out⟩
            · obtain ⟨f, rfl⟩ : ∃ f : Nat, a2 = f := ⟨a2.toNat, by omega⟩
              have k1 : wr.cell? ⟨b, f, none⟩ = some (.int .i64 0) := by
                rw [hKx.cell f, ← HST.out f (by omega)]
                simp [List.getD_eq_getElem?_getD, List.getElem?_eq_getElem (show f < (hops a f 18446744073709551615).length by omega)]
              have c2 : (f : Int) < (x : Int) := by omega
              clear hLx hKx hBx
              go_wp2
              go_ret
              exact ⟨rfl, HBz.out⟩
end Go.Proofs.YtfmkamkbbeahgaaDoor.LinksNearW
