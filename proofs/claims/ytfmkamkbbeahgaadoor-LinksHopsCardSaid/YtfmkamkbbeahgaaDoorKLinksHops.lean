/- Proves: the law LinksHops's function answers true at every input, and changes nothing that was there; over the table that the library lays. -/
import Derived.Test.YtfmkamkbbeahgaaDoorLa
import Derived.Test.YtfmkamkbbeahgaaDoorSc
import Derived.Test.YtfmkamkbbeahgaaDoorRd
import Derived.Test.YtfmkamkbbeahgaaDoorLf
namespace Go.Proofs.YtfmkamkbbeahgaaDoor.LinksHopsW
open Go.RowKit Go.Proofs.YtfmkamkbbeahgaaDoor.Bk Go.Proofs.YtfmkamkbbeahgaaDoor.Rw Go.Proofs.YtfmkamkbbeahgaaDoor.Ow Go.Proofs.YtfmkamkbbeahgaaDoor.Kp Go.Proofs.YtfmkamkbbeahgaaDoor.Bl Go.Proofs.YtfmkamkbbeahgaaDoor.Tz Go.Proofs.YtfmkamkbbeahgaaDoor.Lk Go.Proofs.YtfmkamkbbeahgaaDoor.Hm Go.Proofs.YtfmkamkbbeahgaaDoor.Ho Go.Proofs.YtfmkamkbbeahgaaDoor.Bm Go.Proofs.YtfmkamkbbeahgaaDoor.Sc Go.Proofs.YtfmkamkbbeahgaaDoor.Rm Go.Proofs.YtfmkamkbbeahgaaDoor.Rh Go.Proofs.YtfmkamkbbeahgaaDoor.Rd Go.Proofs.YtfmkamkbbeahgaaDoor.Wi Go.Proofs.YtfmkamkbbeahgaaDoor.La
theorem elem1 {w : World} {A : Option Addr} {len : Nat} {vs : List (List Value)} (h : Lf.RowsAt w [.i .i64, .i .i64, .b] A len vs) {k : Nat} (hk : k < len) :
    ∃ (ad : Addr) (x0 : Int) (x1 : Int) (x2 : Bool), A = some ad ∧ vs[k]? = some [.int .i64 x0, .int .i64 x1, .bool x2] ∧ w.cell? (ad.add (k * 3)) = some (.int .i64 x0) ∧ w.cell? ⟨(ad.add (k * 3)).block, (ad.add (k * 3)).off + 1, none⟩ = some (.int .i64 x1) ∧ w.cell? ⟨(ad.add (k * 3)).block, (ad.add (k * 3)).off + 2, none⟩ = some (.bool x2) ∧ (Lit.int .i64 x0).wf = true ∧ (Lit.int .i64 x1).wf = true := by
  obtain ⟨ad, c, rfl, hv, hL, hc0, hcj⟩ := h.elem hk
  obtain ⟨u0, g0, q0, ⟨x0, e0, f0⟩, L0⟩ := hL.cons
  obtain ⟨u1, g1, q1, ⟨x1, e1, f1⟩, L1⟩ := L0.cons
  obtain ⟨u2, g2, q2, ⟨x2, e2⟩, L2⟩ := L1.cons
  have n_ := L2.nil
  have hcc : c = [.int .i64 x0, .int .i64 x1, .bool x2] := by rw [q0, e0, q1, e1, q2, e2, n_]
  rw [hcc] at hv hc0 hcj
  exact ⟨ad, x0, x1, x2, rfl, hv, hc0 _ rfl, hcj 0 _ rfl, hcj 1 _ rfl, f0, f1⟩
set_option maxRecDepth 100000 in
set_option maxHeartbeats 2000000 in
set_option linter.unusedVariables false in
theorem walk (a0 : Int) (a1 : Option Addr) (len1 cap1 : Nat) (z1 : List (List Value)) (a2 : Int) (a3 : Int) (W : World) (w0 : (Lit.int .i64 a0).wf = true) (l1 : len1 ≤ cap1) (m1 : cap1 ≤ maxLen) (w1 : Lf.RowsAt W [.i .i64, .i .i64, .b] a1 len1 z1) (w2 : (Lit.int .i64 a2).wf = true) (w3 : (Lit.int .u64 a3).wf = true) (wL : Go.Proofs.YtfmkamkbbeahgaaDoor.Tz.Tab W) :
    Calls Tryd.prog 6 #[.int .i64 a0, .slice a1 len1 cap1, .int .i64 a2, .int .u64 a3] W fun e w' => e = .returned (.bool true) ∧ Below W.heap.size W w' := by
  have hz := zZ
  have hs := Z_size
  obtain ⟨Z0, hZ⟩ : ∃ Z0, Z = Z0 := ⟨_, rfl⟩
  rw [hZ] at hz hs
  have hn : (Z0 = #[]) = False := by
    rw [eq_iff_iff]
    constructor
    · intro h
      rw [h] at hs
      simp at hs
    · exact False.elim
  have HZ := Lib.hid hZ
  clear hZ
  have u0 : -9223372036854775808 ≤ a0 ∧ a0 ≤ 9223372036854775807 := by
    have h := w0
    simp only [Lit.wf, Bool.and_eq_true, decide_eq_true_eq] at h
    exact ⟨h.1, h.2⟩
  have HT := Lib.hid wL
  have CA := Lib.hid (alive_ok W wL)
  have HW := Lib.hid w1
  have hw0 := wL.1
  clear wL w0 w1
  by_cases h1 : a0 < 1
  · go_enter Tryd.func6, Tryd.ntmps6
    go_wp2_with (go_at_call 9; (with_reducible refine Calls.mono CA.out ?_); rintro e wa ⟨rfl, hb⟩; have HBa := Lib.hid hb; clear hb)
    go_ret
    exact ⟨rfl, HBa.out⟩
  by_cases h2 : 12 < a0
  · go_enter Tryd.func6, Tryd.ntmps6
    go_wp2_with (go_at_call 9; (with_reducible refine Calls.mono CA.out ?_); rintro e wa ⟨rfl, hb⟩; have HBa := Lib.hid hb; clear hb)
    go_ret
    exact ⟨rfl, HBa.out⟩
  by_cases h3 : 100 < len1
  · have h4 : (100 : Int) < (len1 : Int) := by omega
    go_enter Tryd.func6, Tryd.ntmps6
    go_wp2_with (go_at_call 9; (with_reducible refine Calls.mono CA.out ?_); rintro e wa ⟨rfl, hb⟩; have HBa := Lib.hid hb; clear hb)
    go_ret
    exact ⟨rfl, HBa.out⟩
  obtain ⟨n, rfl⟩ : ∃ n : Nat, a0 = n := ⟨a0.toNat, by omega⟩
  have h4 : ¬ (100 : Int) < (len1 : Int) := by omega
  go_enter Tryd.func6, Tryd.ntmps6
  go_wp2_with (go_at_call 9; (with_reducible refine Calls.mono CA.out ?_); rintro e wa ⟨rfl, hb⟩; have HBa := Lib.hid hb; clear hb)
  have CN := Lib.hid (new_ok n wa (by omega) (by omega))
  go_wp2_with (go_at_call 13; (with_reducible refine Calls.mono CN.out ?_); rintro e w1 ⟨p, g, rfl, hL, hp, hg, hb⟩)
  have HB1 := Lib.hid (HBa.out.trans (hb.mono HBa.out.size))
  have HL1 := Lib.hid hL
  have hsa := HBa.out.size
  clear hb hL CN CA HBa
  go_wp2
  have hpg := HL1.out.lt
  have hRe := Lib.hid (Re.new n w1)
  rw [HZ.out] at hRe
  have HB4 := Lib.hid (HB1.out.alloc HB1.out.size (.cells (Z0.setIfInBounds 0 (.int .i64 n)) 44))
  have HL4 := Lib.hid (HL1.out.below ((Below.refl _ _).alloc (Nat.le_refl _) (.cells (Z0.setIfInBounds 0 (.int .i64 n)) 44)))
  have hsz := HB1.out.size
  clear HB1 HL1 hz hs hn HZ
  generalize w1.alloc (.cells (Z0.setIfInBounds 0 (.int .i64 n)) 44) = w4 at *
  generalize w1.heap.size = m at *
  go_loopw [41] (fun i wr => ∃ k : Nat, k ≤ len1 ∧ i = .int .i64 k ∧ Ln wr p g (run (List.replicate n 0) (z1.take k)) ∧ Re wr m (run (List.replicate n 0) (z1.take k)) ∧ Below W.heap.size W wr) (fun i _ => len1 - (intOf i).toNat)
  case atStart => exact ⟨0, Nat.zero_le _, rfl, HL4.out, hRe.out, HB4.out⟩
  case round =>
    obtain ⟨k, hk, rfl, hL, hR, hB⟩ := hrel
    have hsy : Sy (run (List.replicate n 0) (z1.take k)) := Sy.run _ (Sy.none n) (by simp; omega)
    have hal : (run (List.replicate n 0) (z1.take k)).length = n := by rw [run_length, List.length_replicate]
    by_cases hlt : k < len1
    · have n1 : (k : Int) < (len1 : Int) := by omega
      obtain ⟨ad, x0, x1, x2, rfl, hv, t0, t1, t2, _, _⟩ := elem1 (HW.out.below hB) hlt
      have HRS := Lib.hid (run_snoc (a := List.replicate n 0) hv)
      generalize run (List.replicate n 0) (z1.take k) = a at hL hR hsy hal HRS
      have HRS2 := Lib.hid (show run (List.replicate n 0) (z1.take (k + 1)) = Sc.step a x0 x1 x2 from HRS.out)
      have hcb := Blk.new wr 34 #[.int .i64 x0, .int .i64 x1, .bool x2]
      have hLa : Ln (wr.alloc (.cells #[.int .i64 x0, .int .i64 x1, .bool x2] 34)) p g a := hL.below ((Below.refl _ wr).alloc (Nat.le_refl _) _)
      have hRa : Re (wr.alloc (.cells #[.int .i64 x0, .int .i64 x1, .bool x2] 34)) m a := Cs.alloc hR _
      have HBa := Lib.hid (hB.alloc hB.size (.cells #[.int .i64 x0, .int .i64 x1, .bool x2] 34))
      have hms := Cs.lt hR
      have CS := Lib.hid (show Calls Tryd.prog 14 #[.pointer (some ⟨p, 0, none⟩), .int .i64 x0, .int .i64 x1, .bool x2] (wr.alloc (.cells #[.int .i64 x0, .int .i64 x1, .bool x2] 34)) fun e w' => ∃ r, e = .returned (.int .i64 r) ∧ Ln w' p g (Sc.step a x0 x1 x2) ∧ Kp (fun b => b = g) (wr.alloc (.cells #[.int .i64 x0, .int .i64 x1, .bool x2] 34)) w' from (set_any p g a x0 x1 x2 _ hLa).mono fun e w' h => ⟨_, h⟩)
      have CR := Lib.hid (fun w' (hk : Kp (fun b => b = g) (wr.alloc (.cells #[.int .i64 x0, .int .i64 x1, .bool x2] 34)) w') => show Calls Tryd.prog 17 #[.pointer (some ⟨m, 0, none⟩), .int .i64 x0, .int .i64 x1, .bool x2] w' fun e w'' => ∃ r, e = .returned (.int .i64 r) ∧ Re w'' m (Sc.step a x0 x1 x2) ∧ Kp (fun b => b = m) w' w'' from (rset_ok m a hsy.small (by omega) x0 x1 x2 w' (Cs.kp hRa hk (by omega))).mono fun e w'' h => ⟨_, h⟩)
      have HCB := Lib.hid hcb
      have s0 := hcb.cell 0
      have s1 := hcb.cell 1
      have s2 := hcb.cell 2
      have hlt2 : wr.heap.size < (wr.alloc (.cells #[.int .i64 x0, .int .i64 x1, .bool x2] 34)).heap.size := by simp
      clear hL hR hB hv HRS hLa hRa hcb
      go_wp2_with (first
        | (go_at_call 14; (with_reducible refine Calls.mono CS.out ?_); rintro e w5 ⟨r5, rfl, hL5, hk5⟩; have hc5 := blk_kp HCB.out hk5 (by omega); have HB5 := Lib.hid (below_kp HBa.out HBa.out.size hk5 (fun b hb => by omega)); have HCR := Lib.hid (CR.out w5 hk5); have HL5 := Lib.hid hL5; have r0 := hc5.cell 0; have r1 := hc5.cell 1; have r2 := hc5.cell 2; clear hL5 hk5 hc5 CR CS HBa HCB s0 s1 s2)
        | (go_at_call 17; (with_reducible refine Calls.mono HCR.out ?_); rintro e w6 ⟨r6, rfl, hR6, hk6⟩))
      have HB6 := Lib.hid (below_kp HB5.out HB5.out.size hk6 (fun b hb => by omega))
      have HL6 := Lib.hid (HL5.out.kp hk6 (by omega) (by omega))
      have HR6 := Lib.hid hR6
      clear hR6 hk6 HCR HB5 HL5 r0 r1 r2
      go_roundw
      case rel => exact ⟨k + 1, by omega, by go_num, by rw [HRS2.out]; exact HL6.out, by rw [HRS2.out]; exact HR6.out, HB6.out⟩
      case measure => simp [intOf]; omega
    · have hke : k = len1 := by omega
      subst hke
      rw [List.take_of_length_le (Nat.le_of_eq HW.out.1)] at hL hR hsy hal
      generalize run (List.replicate n 0) z1 = a at hL hR hsy hal
      clear HL4 hRe HB4
      have u3 : 0 ≤ a3 ∧ a3 ≤ 18446744073709551615 := by
        have h := w3
        simp only [Lit.wf, Bool.and_eq_true, decide_eq_true_eq] at h
        exact ⟨h.1, h.2⟩
      obtain ⟨s, rfl⟩ : ∃ s : Nat, a3 = s := ⟨a3.toNat, by omega⟩
      have HLr := Lib.hid hL
      have HRr := Lib.hid hR
      have HBr := Lib.hid hB
      have HTr := Lib.hid (HT.out.below hB hw0)
      have CW := Lib.hid (show Calls Tryd.prog 18 #[.pointer (some ⟨p, 0, none⟩), .int .u64 s] wr fun e w' => WdE a s e ∧ Below wr.heap.size wr w' from wide_ok p g a s wr hL (by omega) HTr.out)
      clear hL hR hB
      go_wp2_with (go_at_call 18; (with_reducible refine Calls.mono CW.out ?_); rintro e w5 ⟨⟨v, o, rfl, hwd⟩, hb5⟩)
      have HL5 := Lib.hid (HLr.out.below hb5)
      have HR5 := Lib.hid (Re.below HRr.out hb5 (Cs.lt HRr.out))
      have HB5 := Lib.hid (HBr.out.trans (hb5.mono HBr.out.size))
      have HT5 := Lib.hid (HTr.out.below hb5 HTr.out.1)
      have HWD := Lib.hid hwd
      have CR := Lib.hid (rwide_ok m a s w5 HR5.out (by omega) (by omega))
      clear hb5 hwd CW HLr HRr HBr HTr
      go_wp2_with (go_at_call 19; (with_reducible refine Calls.mono CR.out ?_); rintro e w6 ⟨⟨v2, o2, rfl, hwd⟩, hb6⟩)
      obtain ⟨hv, ho⟩ := wd_one HWD.out hwd
      subst hv ho
      have HL6 := Lib.hid (HL5.out.below hb6)
      have HR6 := Lib.hid (Re.below HR5.out hb6 (Cs.lt HR5.out))
      have HB6 := Lib.hid (HB5.out.trans (hb6.mono HB5.out.size))
      have HT6 := Lib.hid (HT5.out.below hb6 HT5.out.1)
      have CH := Lib.hid (show Calls Tryd.prog 15 #[.pointer (some ⟨p, 0, none⟩), .int .i64 a2, .int .u64 s] w6 fun e w' => (∃ b, e = .returned (.slice (some ⟨b, 0, none⟩) n n) ∧ Blk w' b 3 ((hops a a2 s).map (Value.int .i64)).toArray ∧ w6.heap.size ≤ b) ∧ Below w6.heap.size w6 w' by rw [← hal]; exact hops_ok p g a a2 s w6 HL6.out (by omega) HT6.out)
      clear hb6 hwd CR HL5 HR5 HB5 HT5 HWD
      have qv : (v == v) = true := by simp
      go_wp2_with (go_at_call 15; (with_reducible refine Calls.mono CH.out ?_); rintro e w7 ⟨⟨b, rfl, hbk, hbn⟩, hb7⟩)
      have HR7 := Lib.hid (Re.below HR6.out hb7 (Cs.lt HR6.out))
      have HB7 := Lib.hid (HB6.out.trans (hb7.mono HB6.out.size))
      have HK7 := Lib.hid hbk
      have CH2 := Lib.hid (show Calls Tryd.prog 20 #[.pointer (some ⟨m, 0, none⟩), .int .i64 a2, .int .u64 s] w7 fun e w' => (∃ b, e = .returned (.slice (some ⟨b, 0, none⟩) n n) ∧ Blk w' b 3 ((hops a a2 s).map (Value.int .i64)).toArray ∧ w7.heap.size ≤ b) ∧ Below w7.heap.size w7 w' by rw [← hal]; exact rhops_ok m a a2 s w7 HR7.out (by omega) (by omega))
      clear hb7 hbk CH HL6 HR6 HB6 HT6
      go_wp2_with (go_at_call 20; (with_reducible refine Calls.mono CH2.out ?_); rintro e w8 ⟨⟨c, rfl, hck, hcn⟩, hb8⟩)
      have HB8 := Lib.hid (HB7.out.trans (hb8.mono HB7.out.size))
      have hHl : (hops a a2 s).length = n := by rw [hops_length, hal]
      have CS := Lib.hid (show Calls Tryd.prog 12 #[.slice (some ⟨b, 0, none⟩) n n, .slice (some ⟨c, 0, none⟩) n n] w8 fun e w' => e = .returned (.bool true) ∧ Below w8.heap.size w8 w' by
        have h := same_eq (some ⟨b, 0, none⟩) (some ⟨c, 0, none⟩) n n (hops a a2 s) w8 (ri_blk (HK7.out.keeps hb8) (by rw [hHl]; unfold maxLen; omega)) (ri_blk hck (by rw [hHl]; unfold maxLen; omega)) (by omega)
        rw [hHl] at h
        exact h)
      clear hb8 hck CH2 HR7 HB7 HK7 hHl
      go_wp2_with (go_at_call 12; (with_reducible refine Calls.mono CS.out ?_); rintro e w9 ⟨rfl, hb9⟩)
      have HB9 := Lib.hid (HB8.out.trans (hb9.mono HB8.out.size))
      clear hb9 CS HB8
      go_ret
      exact ⟨rfl, HB9.out⟩
end Go.Proofs.YtfmkamkbbeahgaaDoor.LinksHopsW
