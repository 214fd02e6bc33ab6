/- Proves: the law LinksMore's function answers true at every input, and changes nothing that was there; over the table that the library lays. -/
import Derived.Test.YtfmkamkbbeahgaaDoorLa
import Derived.Test.YtfmkamkbbeahgaaDoorSc
import Derived.Test.YtfmkamkbbeahgaaDoorWp
import Derived.Test.YtfmkamkbbeahgaaDoorLf
import Derived.Test.YtfmkamkbbeahgaaDoorSq
namespace Go.Proofs.YtfmkamkbbeahgaaDoor.LinksMoreW
open Go.RowKit Go.Proofs.YtfmkamkbbeahgaaDoor.Sq Go.Proofs.YtfmkamkbbeahgaaDoor.Bk Go.Proofs.YtfmkamkbbeahgaaDoor.Rw Go.Proofs.YtfmkamkbbeahgaaDoor.Ow Go.Proofs.YtfmkamkbbeahgaaDoor.Kp Go.Proofs.YtfmkamkbbeahgaaDoor.Bl Go.Proofs.YtfmkamkbbeahgaaDoor.Tz Go.Proofs.YtfmkamkbbeahgaaDoor.Lk Go.Proofs.YtfmkamkbbeahgaaDoor.Hm Go.Proofs.YtfmkamkbbeahgaaDoor.Ho Go.Proofs.YtfmkamkbbeahgaaDoor.Bm Go.Proofs.YtfmkamkbbeahgaaDoor.Wi Go.Proofs.YtfmkamkbbeahgaaDoor.Wp Go.Proofs.YtfmkamkbbeahgaaDoor.Sc Go.Proofs.YtfmkamkbbeahgaaDoor.La
theorem elem1 {w : World} {A : Option Addr} {len : Nat} {vs : List (List Value)} (h : Lf.RowsAt w [.i .i64, .i .i64, .b] A len vs) {k : Nat} (hk : k < len) :
    ∃ (ad : Addr) (x0 : Int) (x1 : Int) (x2 : Bool), A = some ad ∧ vs[k]? = some [.int .i64 x0, .int .i64 x1, .bool x2] ∧ w.cell? (ad.add (k * 3)) = some (.int .i64 x0) ∧ w.cell? ⟨(ad.add (k * 3)).block, (ad.add (k * 3)).off + 1, none⟩ = some (.int .i64 x1) ∧ w.cell? ⟨(ad.add (k * 3)).block, (ad.add (k * 3)).off + 2, none⟩ = some (.bool x2) ∧ (Lit.int .i64 x0).wf = true ∧ (Lit.int .i64 x1).wf = true := by
  obtain ⟨ad, c, rfl, hv, hL, hc0, hcj⟩ := h.elem hk
  obtain ⟨u0, g0, q0, ⟨x0, e0, f0⟩, L0⟩ := hL.cons
  obtain ⟨u1, g1, q1, ⟨x1, e1, f1⟩, L1⟩ := L0.cons
  obtain ⟨u2, g2, q2, ⟨x2, e2⟩, L2⟩ := L1.cons
  have n_ := L2.nil
  have hcc : c = [.int .i64 x0, .int .i64 x1, .bool x2] := by rw [q0, e0, q1, e1, q2, e2, n_]
  rw [hcc] at hv hc0 hcj
  exact ⟨ad, x0, x1, x2, rfl, hv, hc0 _ rfl, hcj 0 _ rfl, hcj 1 _ rfl, f0, f1⟩
set_option maxRecDepth 100000 in
set_option maxHeartbeats 1000000 in
set_option linter.unusedVariables false in
set_option linter.unusedVariables false in
theorem walk (a0 : Int) (a1 : Option Addr) (len1 cap1 : Nat) (z1 : List (List Value)) (a2 : Int) (a3 : Int) (W : World) (w0 : (Lit.int .i64 a0).wf = true) (l1 : len1 ≤ cap1) (m1 : cap1 ≤ maxLen) (w1 : Lf.RowsAt W [.i .i64, .i .i64, .b] a1 len1 z1) (w2 : (Lit.int .i64 a2).wf = true) (w3 : (Lit.int .i64 a3).wf = true) (wL : Go.Proofs.YtfmkamkbbeahgaaDoor.Tz.Tab W) :
    Calls Tryd.prog 7 #[.int .i64 a0, .slice a1 len1 cap1, .int .i64 a2, .int .i64 a3] W fun e w' => e = .returned (.bool true) ∧ Below W.heap.size W w' := by
  have u0 : -9223372036854775808 ≤ a0 ∧ a0 ≤ 9223372036854775807 := by
    have h := w0
    simp only [Lit.wf, Bool.and_eq_true, decide_eq_true_eq] at h
    exact ⟨h.1, h.2⟩
  have HT := Lib.hid wL
  have CA := Lib.hid (alive_ok W wL)
  have HW := Lib.hid w1
  have hw0 := wL.1
  clear wL w0 w1
  by_cases h1 : a0 < 1
  · go_enter Tryd.func7, Tryd.ntmps7
    go_wp2_with (go_at_call 9; (with_reducible refine Calls.mono CA.out ?_); rintro e wa ⟨rfl, hb⟩; have HBa := Lib.hid hb; clear hb)
    go_ret
    exact ⟨rfl, HBa.out⟩
  by_cases h2 : 64 < a0
  · go_enter Tryd.func7, Tryd.ntmps7
    go_wp2_with (go_at_call 9; (with_reducible refine Calls.mono CA.out ?_); rintro e wa ⟨rfl, hb⟩; have HBa := Lib.hid hb; clear hb)
    go_ret
    exact ⟨rfl, HBa.out⟩
  by_cases h3 : 60 < len1
  · have h4 : (60 : Int) < (len1 : Int) := by omega
    go_enter Tryd.func7, Tryd.ntmps7
    go_wp2_with (go_at_call 9; (with_reducible refine Calls.mono CA.out ?_); rintro e wa ⟨rfl, hb⟩; have HBa := Lib.hid hb; clear hb)
    go_ret
    exact ⟨rfl, HBa.out⟩
  obtain ⟨n, rfl⟩ : ∃ n : Nat, a0 = n := ⟨a0.toNat, by omega⟩
  have h4 : ¬ (60 : Int) < (len1 : Int) := by omega
  go_enter Tryd.func7, Tryd.ntmps7
  go_wp2_with (go_at_call 9; (with_reducible refine Calls.mono CA.out ?_); rintro e wa ⟨rfl, hb⟩; have HBa := Lib.hid hb; clear hb)
  have CN := Lib.hid (new_ok n wa (by omega) (by omega))
  go_wp2_with (go_at_call 13; (with_reducible refine Calls.mono CN.out ?_); rintro e w1 ⟨p, g, rfl, hL, hp, hg, hb⟩)
  have HB1 := Lib.hid (HBa.out.trans (hb.mono HBa.out.size))
  have HL1 := Lib.hid hL
  have hsa := HBa.out.size
  clear hb hL CN CA HBa
  go_wp2
  go_loopw [38] (fun i wr => ∃ k : Nat, k ≤ len1 ∧ i = .int .i64 k ∧ Ln wr p g (run (List.replicate n 0) (z1.take k)) ∧ Below W.heap.size W wr) (fun i _ => len1 - (intOf i).toNat)
  case atStart => exact ⟨0, Nat.zero_le _, rfl, HL1.out, HB1.out⟩
  case round =>
    obtain ⟨k, hk, rfl, hL, hB⟩ := hrel
    by_cases hlt : k < len1
    · have n1 : (k : Int) < (len1 : Int) := by omega
      obtain ⟨ad, x0, x1, x2, rfl, hv, t0, t1, t2, _, _⟩ := elem1 (HW.out.below hB) hlt
      have HV := Lib.hid hv
      have HL2 := Lib.hid (hL.below ((Below.refl _ wr).alloc (Nat.le_refl _) (.cells #[.int .i64 x0, .int .i64 x1, .bool x2] 34)))
      have HB2 := Lib.hid (hB.alloc hB.size (.cells #[.int .i64 x0, .int .i64 x1, .bool x2] 34))
      have CS := Lib.hid (set_any p g _ x0 x1 x2 _ HL2.out)
      have s0 := (Blk.new wr 34 #[.int .i64 x0, .int .i64 x1, .bool x2]).cell 0
      have s1 := (Blk.new wr 34 #[.int .i64 x0, .int .i64 x1, .bool x2]).cell 1
      have s2 := (Blk.new wr 34 #[.int .i64 x0, .int .i64 x1, .bool x2]).cell 2
      clear hL hB hv
      go_wp2_with (go_at_call 14; (with_reducible refine Calls.mono CS.out ?_); rintro e w3 ⟨rfl, hL3, hk3⟩)
      go_roundw
      case rel => exact ⟨k + 1, by omega, by go_num, by rw [run_snoc HV.out]; exact hL3, below_kp HB2.out HB2.out.size hk3 (fun b hb => by omega)⟩
      case measure => simp [intOf]; omega
    · have hke : k = len1 := by omega
      subst hke
      rw [List.take_of_length_le (Nat.le_of_eq HW.out.1)] at hL
      have hsy : Sy (run (List.replicate n 0) z1) := Sy.run z1 (Sy.none n) (by simp; omega)
      have hal : (run (List.replicate n 0) z1).length = n := by rw [run_length, List.length_replicate]
      generalize run (List.replicate n 0) z1 = a at hL hsy hal
      have HLr := Lib.hid hL
      have HBr := Lib.hid hB
      have HTr := Lib.hid (HT.out.below hB hw0)
      have CW := Lib.hid (show Calls Tryd.prog 18 #[.pointer (some ⟨p, 0, none⟩), .int .u64 18446744073709551615] wr fun e w' => WdE a 18446744073709551615 e ∧ Below wr.heap.size wr w' from wide_ok p g a 18446744073709551615 wr hL (by decide) HTr.out)
      clear hL hB HL1 HB1
      go_wp2_with (go_at_call 18; (with_reducible refine Calls.mono CW.out ?_); rintro e w5 ⟨⟨v, o, rfl, hwd⟩, hb5⟩)
      have HL5 := Lib.hid (HLr.out.below hb5)
      have HB5 := Lib.hid (HBr.out.trans (hb5.mono HBr.out.size))
      have HT5 := Lib.hid (HTr.out.below hb5 HTr.out.1)
      have HWD := Lib.hid hwd
      have CS := Lib.hid (set_any p g a a2 a3 true w5 HL5.out)
      clear hb5 hwd CW HLr HBr HTr
      cases hm : mayb a a2 a3 with
      | false =>
        rw [hm] at CS
        simp only [Bool.false_eq_true, if_false] at CS
        go_wp2_with (go_at_call 14; (with_reducible refine Calls.mono CS.out ?_); rintro e w6 ⟨rfl, hL6, hk6⟩)
        have HL6 := Lib.hid hL6
        have HB6 := Lib.hid (below_kp HB5.out HB5.out.size hk6 (fun b hb => by omega))
        have HT6 := Lib.hid (HT5.out.kp hk6 (by omega))
        have CW := Lib.hid (show Calls Tryd.prog 18 #[.pointer (some ⟨p, 0, none⟩), .int .u64 18446744073709551615] w6 fun e w' => WdE (Sc.step a a2 a3 true) 18446744073709551615 e ∧ Below w6.heap.size w6 w' from wide_ok p g _ 18446744073709551615 w6 hL6 (by decide) HT6.out)
        clear hL6 hk6 CS HL5 HB5 HT5
        go_wp2_with (go_at_call 18; (with_reducible refine Calls.mono CW.out ?_); rintro e w7 ⟨⟨v2, o2, rfl, hwd⟩, hb7⟩)
        have HB7 := Lib.hid (HB6.out.trans (hb7.mono HB6.out.size))
        have CM := Lib.hid (show Calls Tryd.prog 21 #[.pointer (some ⟨p, 0, none⟩), .int .i64 a2, .int .i64 a3] w7 fun e w' => e = .returned (.bool (mayb a a2 a3)) ∧ w7 = w' by
          rw [← mayb_step a a2 a3 a2 a3 true]
          exact may_any _ _ a2 a3 w7 (.inr ⟨p, g, rfl, HL6.out.below hb7⟩))
        have HML := Lib.hid (show o = true → o2 = true ∧ v2 ≤ v ∧ v2 < (n : Int) from fun ho => by
          have h := HWD.out
          rw [ho] at h
          have := more_law hsy (by omega) (by omega) a2 a3 v v2 o2 h hwd
          rw [hal] at this
          exact this)
        clear hb7 hwd CW HL6 HB6 HT6
        rw [hm] at CM
        clear hm
        cases o with
        | false =>
          go_wp2_with (go_at_call 21; (with_reducible refine Calls.mono CM.out ?_); rintro e w8 ⟨rfl, rfl⟩)
          go_ret
          exact ⟨rfl, HB7.out⟩
        | true =>
          obtain ⟨rfl, q1, q2⟩ := HML.out rfl
          go_wp2_with (go_at_call 21; (with_reducible refine Calls.mono CM.out ?_); rintro e w8 ⟨rfl, rfl⟩)
          go_ret
          exact ⟨rfl, HB7.out⟩
      | true =>
        rw [hm] at CS
        simp only [if_true] at CS
        go_wp2_with (go_at_call 14; (with_reducible refine Calls.mono CS.out ?_); rintro e w6 ⟨rfl, hL6, hk6⟩)
        have HL6 := Lib.hid hL6
        have HB6 := Lib.hid (below_kp HB5.out HB5.out.size hk6 (fun b hb => by omega))
        have HT6 := Lib.hid (HT5.out.kp hk6 (by omega))
        have CW := Lib.hid (show Calls Tryd.prog 18 #[.pointer (some ⟨p, 0, none⟩), .int .u64 18446744073709551615] w6 fun e w' => WdE (Sc.step a a2 a3 true) 18446744073709551615 e ∧ Below w6.heap.size w6 w' from wide_ok p g _ 18446744073709551615 w6 hL6 (by decide) HT6.out)
        clear hL6 hk6 CS HL5 HB5 HT5
        go_wp2_with (go_at_call 18; (with_reducible refine Calls.mono CW.out ?_); rintro e w7 ⟨⟨v2, o2, rfl, hwd⟩, hb7⟩)
        have HB7 := Lib.hid (HB6.out.trans (hb7.mono HB6.out.size))
        have CM := Lib.hid (show Calls Tryd.prog 21 #[.pointer (some ⟨p, 0, none⟩), .int .i64 a2, .int .i64 a3] w7 fun e w' => e = .returned (.bool (mayb a a2 a3)) ∧ w7 = w' by
          rw [← mayb_step a a2 a3 a2 a3 true]
          exact may_any _ _ a2 a3 w7 (.inr ⟨p, g, rfl, HL6.out.below hb7⟩))
        have HML := Lib.hid (show o = true → o2 = true ∧ v2 ≤ v ∧ v2 < (n : Int) from fun ho => by
          have h := HWD.out
          rw [ho] at h
          have := more_law hsy (by omega) (by omega) a2 a3 v v2 o2 h hwd
          rw [hal] at this
          exact this)
        clear hb7 hwd CW HL6 HB6 HT6
        rw [hm] at CM
        clear hm
        cases o with
        | false =>
          go_wp2_with (go_at_call 21; (with_reducible refine Calls.mono CM.out ?_); rintro e w8 ⟨rfl, rfl⟩)
          go_ret
          exact ⟨rfl, HB7.out⟩
        | true =>
          obtain ⟨rfl, q1, q2⟩ := HML.out rfl
          go_wp2_with (go_at_call 21; (with_reducible refine Calls.mono CM.out ?_); rintro e w8 ⟨rfl, rfl⟩)
          go_ret
          exact ⟨rfl, HB7.out⟩
end Go.Proofs.YtfmkamkbbeahgaaDoor.LinksMoreW
