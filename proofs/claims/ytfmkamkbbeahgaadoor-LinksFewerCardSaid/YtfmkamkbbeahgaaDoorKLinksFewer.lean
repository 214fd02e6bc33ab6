/- Proves: the law LinksFewer's function answers true at every input, and changes nothing that was there; over the table that the library lays. -/
import Derived.Test.YtfmkamkbbeahgaaDoorLa
import Derived.Test.YtfmkamkbbeahgaaDoorSc
import Derived.Test.YtfmkamkbbeahgaaDoorRf
import Derived.Test.YtfmkamkbbeahgaaDoorLf
import Derived.Test.YtfmkamkbbeahgaaDoorSq
namespace Go.Proofs.YtfmkamkbbeahgaaDoor.LinksFewerW
open Go.RowKit Go.Proofs.YtfmkamkbbeahgaaDoor.Sq Go.Proofs.YtfmkamkbbeahgaaDoor.Bk Go.Proofs.YtfmkamkbbeahgaaDoor.Rw Go.Proofs.YtfmkamkbbeahgaaDoor.Ow Go.Proofs.YtfmkamkbbeahgaaDoor.Kp Go.Proofs.YtfmkamkbbeahgaaDoor.Bl Go.Proofs.YtfmkamkbbeahgaaDoor.Tz Go.Proofs.YtfmkamkbbeahgaaDoor.Lk Go.Proofs.YtfmkamkbbeahgaaDoor.Hm Go.Proofs.YtfmkamkbbeahgaaDoor.Ho Go.Proofs.YtfmkamkbbeahgaaDoor.Bm Go.Proofs.YtfmkamkbbeahgaaDoor.Rf Go.Proofs.YtfmkamkbbeahgaaDoor.Sc Go.Proofs.YtfmkamkbbeahgaaDoor.La
theorem elem1 {w : World} {A : Option Addr} {len : Nat} {vs : List (List Value)} (h : Lf.RowsAt w [.i .i64, .i .i64, .b] A len vs) {k : Nat} (hk : k < len) :
    ∃ (ad : Addr) (x0 : Int) (x1 : Int) (x2 : Bool), A = some ad ∧ vs[k]? = some [.int .i64 x0, .int .i64 x1, .bool x2] ∧ w.cell? (ad.add (k * 3)) = some (.int .i64 x0) ∧ w.cell? ⟨(ad.add (k * 3)).block, (ad.add (k * 3)).off + 1, none⟩ = some (.int .i64 x1) ∧ w.cell? ⟨(ad.add (k * 3)).block, (ad.add (k * 3)).off + 2, none⟩ = some (.bool x2) ∧ (Lit.int .i64 x0).wf = true ∧ (Lit.int .i64 x1).wf = true := by
  obtain ⟨ad, c, rfl, hv, hL, hc0, hcj⟩ := h.elem hk
  obtain ⟨u0, g0, q0, ⟨x0, e0, f0⟩, L0⟩ := hL.cons
  obtain ⟨u1, g1, q1, ⟨x1, e1, f1⟩, L1⟩ := L0.cons
  obtain ⟨u2, g2, q2, ⟨x2, e2⟩, L2⟩ := L1.cons
  have n_ := L2.nil
  have hcc : c = [.int .i64 x0, .int .i64 x1, .bool x2] := by rw [q0, e0, q1, e1, q2, e2, n_]
  rw [hcc] at hv hc0 hcj
  exact ⟨ad, x0, x1, x2, rfl, hv, hc0 _ rfl, hcj 0 _ rfl, hcj 1 _ rfl, f0, f1⟩
set_option maxRecDepth 100000 in
set_option maxHeartbeats 1000000 in
theorem walk (a0 : Int) (a1 : Option Addr) (len1 cap1 : Nat) (z1 : List (List Value)) (a2 : Int) (a3 : Int) (W : World) (w0 : (Lit.int .i64 a0).wf = true) (l1 : len1 ≤ cap1) (m1 : cap1 ≤ maxLen) (w1 : Lf.RowsAt W [.i .i64, .i .i64, .b] a1 len1 z1) (w2 : (Lit.int .i64 a2).wf = true) (w3 : (Lit.int .u64 a3).wf = true) (wL : Go.Proofs.YtfmkamkbbeahgaaDoor.Tz.Tab W) :
    Calls Tryd.prog 4 #[.int .i64 a0, .slice a1 len1 cap1, .int .i64 a2, .int .u64 a3] W fun e w' => e = .returned (.bool true) ∧ Below W.heap.size W w' := by
  have u0 : -9223372036854775808 ≤ a0 ∧ a0 ≤ 9223372036854775807 := by
    have h := w0
    simp only [Lit.wf, Bool.and_eq_true, decide_eq_true_eq] at h
    exact ⟨h.1, h.2⟩
  have HT := Lib.hid wL
  have CA := Lib.hid (alive_ok W wL)
  have HW := Lib.hid w1
  have hw0 := wL.1
  clear wL w0 w1
  by_cases h1 : a0 < 1
  · go_enter Tryd.func4, Tryd.ntmps4
    go_wp2_with (go_at_call 9; (with_reducible refine Calls.mono CA.out ?_); rintro e wa ⟨rfl, hb⟩; have HBa := Lib.hid hb; clear hb)
    go_ret
    exact ⟨rfl, HBa.out⟩
  by_cases h2 : 64 < a0
  · go_enter Tryd.func4, Tryd.ntmps4
    go_wp2_with (go_at_call 9; (with_reducible refine Calls.mono CA.out ?_); rintro e wa ⟨rfl, hb⟩; have HBa := Lib.hid hb; clear hb)
    go_ret
    exact ⟨rfl, HBa.out⟩
  by_cases h3 : 100 < len1
  · have h4 : (100 : Int) < (len1 : Int) := by omega
    go_enter Tryd.func4, Tryd.ntmps4
    go_wp2_with (go_at_call 9; (with_reducible refine Calls.mono CA.out ?_); rintro e wa ⟨rfl, hb⟩; have HBa := Lib.hid hb; clear hb)
    go_ret
    exact ⟨rfl, HBa.out⟩
  obtain ⟨n, rfl⟩ : ∃ n : Nat, a0 = n := ⟨a0.toNat, by omega⟩
  have h4 : ¬ (100 : Int) < (len1 : Int) := by omega
  go_enter Tryd.func4, Tryd.ntmps4
  go_wp2_with (go_at_call 9; (with_reducible refine Calls.mono CA.out ?_); rintro e wa ⟨rfl, hb⟩; have HBa := Lib.hid hb; clear hb)
  have CN := Lib.hid (new_ok n wa (by omega) (by omega))
  go_wp2_with (go_at_call 13; (with_reducible refine Calls.mono CN.out ?_); rintro e w1 ⟨p, g, rfl, hL, hp, hg, hb⟩)
  have HB1 := Lib.hid (HBa.out.trans (hb.mono HBa.out.size))
  have HL1 := Lib.hid hL
  have hsa := HBa.out.size
  clear hb hL CN CA HBa
  go_wp2
  go_loopw [36] (fun i wr => ∃ k : Nat, k ≤ len1 ∧ i = .int .i64 k ∧ Ln wr p g (run (List.replicate n 0) (z1.take k)) ∧ Below W.heap.size W wr) (fun i _ => len1 - (intOf i).toNat)
  case atStart => exact ⟨0, Nat.zero_le _, rfl, HL1.out, HB1.out⟩
  case round =>
    obtain ⟨k, hk, rfl, hL, hB⟩ := hrel
    by_cases hlt : k < len1
    · have n1 : (k : Int) < (len1 : Int) := by omega
      obtain ⟨ad, x0, x1, x2, rfl, hv, t0, t1, t2, _, _⟩ := elem1 (HW.out.below hB) hlt
      have HV := Lib.hid hv
      have HL2 := Lib.hid (hL.below ((Below.refl _ wr).alloc (Nat.le_refl _) (.cells #[.int .i64 x0, .int .i64 x1, .bool x2] 34)))
      have HB2 := Lib.hid (hB.alloc hB.size (.cells #[.int .i64 x0, .int .i64 x1, .bool x2] 34))
      have CS := Lib.hid (set_any p g _ x0 x1 x2 _ HL2.out)
      have s0 := (Blk.new wr 34 #[.int .i64 x0, .int .i64 x1, .bool x2]).cell 0
      have s1 := (Blk.new wr 34 #[.int .i64 x0, .int .i64 x1, .bool x2]).cell 1
      have s2 := (Blk.new wr 34 #[.int .i64 x0, .int .i64 x1, .bool x2]).cell 2
      clear hL hB hv
      go_wp2_with (go_at_call 14; (with_reducible refine Calls.mono CS.out ?_); rintro e w3 ⟨rfl, hL3, hk3⟩)
      go_roundw
      case rel => exact ⟨k + 1, by omega, by go_num, by rw [run_snoc HV.out]; exact hL3, below_kp HB2.out HB2.out.size hk3 (fun b hb => by omega)⟩
      case measure => simp [intOf]; omega
    · have hke : k = len1 := by omega
      subst hke
      rw [List.take_of_length_le (Nat.le_of_eq HW.out.1)] at hL
      have hal : (run (List.replicate n 0) z1).length = n := by rw [run_length, List.length_replicate]
      generalize run (List.replicate n 0) z1 = a at hL hal
      have u3 : 0 ≤ a3 ∧ a3 ≤ 18446744073709551615 := by
        have h := w3
        simp only [Lit.wf, Bool.and_eq_true, decide_eq_true_eq] at h
        exact ⟨h.1, h.2⟩
      obtain ⟨s, rfl⟩ : ∃ s : Nat, a3 = s := ⟨a3.toNat, by omega⟩
      have HLr := Lib.hid hL
      have HBr := Lib.hid hB
      have HTr := Lib.hid (HT.out.below hB hw0)
      have CH := Lib.hid (show Calls Tryd.prog 15 #[.pointer (some ⟨p, 0, none⟩), .int .i64 a2, .int .u64 s] wr fun e w' => (∃ b, e = .returned (.slice (some ⟨b, 0, none⟩) n n) ∧ Blk w' b 3 ((hops a a2 s).map (Value.int .i64)).toArray ∧ wr.heap.size ≤ b) ∧ Below wr.heap.size wr w' by rw [← hal]; exact hops_ok p g a a2 s wr hL (by omega) HTr.out)
      clear hL hB HL1 HB1
      go_wp2_with (go_at_call 15; (with_reducible refine Calls.mono CH.out ?_); rintro e w5 ⟨⟨b, rfl, hbk, hbn⟩, hb5⟩)
      have HL5 := Lib.hid (HLr.out.below hb5)
      have HB5 := Lib.hid (HBr.out.trans (hb5.mono HBr.out.size))
      have HT5 := Lib.hid (HTr.out.below hb5 HTr.out.1)
      have HK5 := Lib.hid hbk
      have CH2 := Lib.hid (show Calls Tryd.prog 15 #[.pointer (some ⟨p, 0, none⟩), .int .i64 a2, .int .u64 18446744073709551615] w5 fun e w' => (∃ b, e = .returned (.slice (some ⟨b, 0, none⟩) n n) ∧ Blk w' b 3 ((hops a a2 18446744073709551615).map (Value.int .i64)).toArray ∧ w5.heap.size ≤ b) ∧ Below w5.heap.size w5 w' by rw [← hal]; exact hops_ok p g a a2 18446744073709551615 w5 HL5.out (by decide) HT5.out)
      clear hb5 hbk CH HLr HBr HTr
      go_wp2_with (go_at_call 15; (with_reducible refine Calls.mono CH2.out ?_); rintro e w6 ⟨⟨c, rfl, hck, hcn⟩, hb6⟩)
      have HB6 := Lib.hid (HB5.out.trans (hb6.mono HB5.out.size))
      have HK6 := Lib.hid (HK5.out.keeps hb6)
      have HC6 := Lib.hid hck
      have hHl : (hops a a2 s).length = n := by rw [hops_length, hal]
      have hGl : (hops a a2 18446744073709551615).length = n := by rw [hops_length, hal]
      have HR := Lib.hid (hops_range (a := a) (by omega) a2 s)
      have HFW := Lib.hid (fewer_law (a := a) (by omega) a2 s)
      clear hb6 hck CH2 HL5 HB5 HT5 HK5
      generalize hops a a2 s = fw at HK6 hHl HR HFW
      generalize hops a a2 18446744073709551615 = al at HC6 hGl HFW
      go_loopw [15] (fun i wr => ∃ x : Nat, x ≤ n ∧ i = .int .i64 x ∧ Blk wr b 3 (fw.map (Value.int .i64)).toArray ∧ Blk wr c 3 (al.map (Value.int .i64)).toArray ∧ Below W.heap.size W wr) (fun i _ => n - (intOf i).toNat)
      case atStart => exact ⟨0, Nat.zero_le _, rfl, HK6.out, HC6.out, HB6.out⟩
      case round =>
        obtain ⟨x, hx, rfl, hKx, hCx, hBx⟩ := hrel
        by_cases hxn : x < n
        · have xn : (x : Int) < (n : Int) := by omega
          have k1 : wr.drew.cell? ⟨b, x, none⟩ = some (.int .i64 (fw.getD x (-1))) := by
            rw [hKx.drew.cell x]
            simp [List.getD_eq_getElem?_getD, List.getElem?_eq_getElem (show x < fw.length by omega)]
          have k2 : wr.drew.cell? ⟨c, x, none⟩ = some (.int .i64 (al.getD x (-1))) := by
            rw [hCx.drew.cell x]
            simp [List.getD_eq_getElem?_getD, List.getElem?_eq_getElem (show x < al.length by omega)]
          have r1 := HR.out x (by omega)
          have fl := HFW.out x (by omega)
          have CI := Lib.hid (in_ok s x wr.drew)
          rw [inb_nat s x (by omega)] at CI
          have HKx := Lib.hid hKx.drew
          have HCx := Lib.hid hCx.drew
          have HBx := Lib.hid hBx.drew
          clear hKx hCx hBx HK6 HC6 HB6
          generalize fw.getD x (-1) = fv at k1 r1 fl
          generalize al.getD x (-1) = av at k2 fl
          by_cases hneg : fv < 0
          · have q0 : ¬ 0 ≤ fv := by omega
            have d0 : decide (0 ≤ fv) = false := by simpa using q0
            clear fl CI
            go_wp2
            refine wp_region_seq [(0, true), (1, true), (2, true), (3, true), (4, true), (5, true), (6, true), (7, true), (8, true), (9, true), (10, true), (11, true), (12, true), (13, true), (14, true), (15, true), (16, true), (17, true), (18, true), (19, true), (20, true), (21, true), (22, true), (23, true), (24, true), (25, false), (26, true), (27, true), (28, true)] (fun w' => w'.cell? ⟨b, x, none⟩ = some (.int .i64 fv) ∧ w'.cell? ⟨c, x, none⟩ = some (.int .i64 av)) (by kernel_rfl) (by kernel_rfl) ⟨k1, k2⟩ (fun hHeld1 => ?_)
            simp only [List.map_cons, List.map_nil, List.getElem?_toArray, List.getElem?_cons_zero, List.getElem?_cons_succ]
            repeat (first | (refine seq_skip (by rfl) ?_; try simp only [Act.put, List.setIfInBounds_toArray, List.set_cons_zero, List.set_cons_succ]) | (refine seq_not (by rfl) (by assumption) ?_; try simp only [Act.put, List.setIfInBounds_toArray, List.set_cons_zero, List.set_cons_succ]) | (refine seq_take (v := ?_) (by rfl) ?_ ?_; rotate_left; (focus ((intro w hSw; (try dsimp only at hSw); go_simp; (try with_reducible rfl)); done)); try simp only [Act.put, List.setIfInBounds_toArray, List.set_cons_zero, List.set_cons_succ]))
            clear hHeld1
            refine seq_done ?_
            go_wp2
            go_roundw
            case rel => exact ⟨x + 1, by omega, by go_num, HKx.out, HCx.out, HBx.out⟩
            case measure => simp [intOf]; omega
          · obtain ⟨f1, f2, f3⟩ := fl (by omega)
            rw [f3] at CI
            have q0 : 0 ≤ fv := by omega
            have d0 : decide (0 ≤ fv) = true := by simpa using q0
            have d1 : decide (av < 0) = false := by simpa using f1
            have d2 : decide (fv < av) = false := by simpa using f2
            clear fl f3
            go_wp2
            refine wp_region_seq [(0, true), (1, true), (2, true), (3, true), (4, true), (5, true), (6, true), (7, true), (8, true), (9, true), (10, true), (11, true), (12, true), (13, true), (14, true), (15, true), (16, true), (17, true), (18, true), (19, true), (20, true), (21, true), (22, true), (23, true), (24, true), (25, false), (26, true), (27, true), (28, true)] (fun w' => w'.cell? ⟨b, x, none⟩ = some (.int .i64 fv) ∧ w'.cell? ⟨c, x, none⟩ = some (.int .i64 av)) (by kernel_rfl) (by kernel_rfl) ⟨k1, k2⟩ (fun hHeld1 => ?_)
            clear hHeld1
            simp only [List.map_cons, List.map_nil, List.getElem?_toArray, List.getElem?_cons_zero, List.getElem?_cons_succ]
            repeat (first | (refine seq_skip (by rfl) ?_; try simp only [Act.put, List.setIfInBounds_toArray, List.set_cons_zero, List.set_cons_succ]) | (refine seq_not (by rfl) (by assumption) ?_; try simp only [Act.put, List.setIfInBounds_toArray, List.set_cons_zero, List.set_cons_succ]) | (refine seq_take (v := ?_) (by rfl) ?_ ?_; rotate_left; (focus ((intro w hSw; (try dsimp only at hSw); go_simp; (try with_reducible rfl)); done)); try simp only [Act.put, List.setIfInBounds_toArray, List.set_cons_zero, List.set_cons_succ]))
            refine seq_do (fun K hK => ?_)
            go_simp
            go_at_call 11
            (with_reducible refine Calls.mono CI.out ?_)
            rintro e w8 ⟨rfl, rfl⟩
            dsimp only
            refine hK.out _ _ ⟨k1, k2⟩ (fun hHeld2 => ?_)
            clear hK K hHeld2
            repeat (first | (refine seq_skip (by rfl) ?_; try simp only [Act.put, List.setIfInBounds_toArray, List.set_cons_zero, List.set_cons_succ]) | (refine seq_not (by rfl) (by assumption) ?_; try simp only [Act.put, List.setIfInBounds_toArray, List.set_cons_zero, List.set_cons_succ]) | (refine seq_take (v := ?_) (by rfl) ?_ ?_; rotate_left; (focus ((intro w hSw; (try dsimp only at hSw); go_simp; (try with_reducible rfl)); done)); try simp only [Act.put, List.setIfInBounds_toArray, List.set_cons_zero, List.set_cons_succ]))
            refine seq_done ?_
            go_wp2
            go_roundw
            case rel => exact ⟨x + 1, by omega, by go_num, HKx.out, HCx.out, HBx.out⟩
            case measure => simp [intOf]; omega
        · have hxe : x = n := by omega
          subst hxe
          have HBz := Lib.hid hBx
          clear hKx hCx hBx
          go_wp2
          go_ret
          exact ⟨rfl, HBz.out⟩
end Go.Proofs.YtfmkamkbbeahgaaDoor.LinksFewerW
