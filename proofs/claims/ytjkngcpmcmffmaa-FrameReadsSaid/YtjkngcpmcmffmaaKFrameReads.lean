/- Proves: the law FrameReads's function answers true at every input, and changes nothing that was there. -/
import Derived.Test.YtjkngcpmcmffmaaRx
namespace Go.Proofs.Ytjkngcpmcmffmaa.FrameReadsW
open Go.RowKit Go.Proofs.Ytjkngcpmcmffmaa.Bk Go.Proofs.Ytjkngcpmcmffmaa.Rw Go.Proofs.Ytjkngcpmcmffmaa.Ow Go.Proofs.Ytjkngcpmcmffmaa.Kp Go.Proofs.Ytjkngcpmcmffmaa.Sq Go.Proofs.Ytjkngcpmcmffmaa.Octet Go.Proofs.Ytjkngcpmcmffmaa.Fr Go.Proofs.Ytjkngcpmcmffmaa.Pn Go.Proofs.Ytjkngcpmcmffmaa.Crc Go.Proofs.Ytjkngcpmcmffmaa.Cr Go.Proofs.Ytjkngcpmcmffmaa.Gn Go.Proofs.Ytjkngcpmcmffmaa.Kd Go.Proofs.Ytjkngcpmcmffmaa.Dc Go.Proofs.Ytjkngcpmcmffmaa.De Go.Proofs.Ytjkngcpmcmffmaa.Pl Go.Proofs.Ytjkngcpmcmffmaa.Al Go.Proofs.Ytjkngcpmcmffmaa.Rd Go.Proofs.Ytjkngcpmcmffmaa.Str Go.Proofs.Ytjkngcpmcmffmaa.Re Go.Proofs.Ytjkngcpmcmffmaa.Ge Go.Proofs.Ytjkngcpmcmffmaa.Rx
theorem read_ok (A : Option Addr) (c : Nat) (l : List Int) (hl : Bytes l) (hlc : l.length ≤ c) (w : World) (hR : Ri .u8 w A l) :
    Calls Try.prog 11 #[.slice A l.length c] w fun e w' => e = .returned (.tuple #[(rpl l).v, .int .i64 (de l)]) ∧ Below w.heap.size w w' := by
  by_cases h : 64 < l.length ∨ l.length = 0
  · exact read_early A c l w h
  · exact read_main A c l hl hlc w hR (by omega) (by omega)
set_option maxRecDepth 100000 in
set_option maxHeartbeats 4000000 in
theorem core (A : Option Addr) (c : Nat) (b : List Int) (hcb : b.length ≤ c) (W : World) (hR : Ri .u8 W A b) (hm : Bytes b) :
    Calls Try.prog 3 #[.slice A b.length c] W fun e w' => e = .returned (.bool true) ∧ Below W.heap.size W w' := by
  have HRB := Lib.hid hR
  have HBB := Lib.hid hm
  have CA := Lib.hid (alive_ok W)
  by_cases hb200 : (200 : Int) < (b.length : Int)
  ·
    go_enter Try.func3, Try.ntmps3
    go_wp2_with (go_at_call 9; (with_reducible refine Calls.mono CA.out ?_); rintro e w1 ⟨rfl, hb1⟩; have HB1 := Lib.hid hb1; clear hb1)
    go_ret
    exact ⟨rfl, HB1.out⟩
  have CD := Lib.hid (fun (w : World) (h : Ri .u8 w A b) => decode_ok A c b HBB.out (by omega) hcb w h)
  have CR := Lib.hid (fun (w : World) (h : Ri .u8 w A b) => read_ok A c b HBB.out hcb w h)
  clear hR hm
  by_cases hE : de b = 0
  · have hk := (de_zero hE).2.2.1
    rw [show dv b = frm (dk b) (dn b) from if_pos hE, hE] at CD
    rw [show rpl b = pln (dk b) (dn b) from if_pos hE, hE] at CR
    have CP := Lib.hid (plain_ok hk (dn_length b))
    have HG := guard31 .eql (pln (dk b) (dn b)) (pln (dk b) (dn b))
    have HE := eq_pl (pln (dk b) (dn b)) (pln (dk b) (dn b))
    rw [decide_eq_true rfl] at HE
    generalize frm (dk b) (dn b) = FR at CD CP
    generalize pln (dk b) (dn b) = p at CR CP HG HE
    clear hE hk
    obtain ⟨kind, from_, to_, root, boot, seq, hops, time, level, sent, got, back_, glob, tai⟩ := p
    simp only [Pl.v, Pl.cs] at *
    go_enter Try.func3, Try.ntmps3
    go_wp2_with (first
      | (go_at_call 9
         (with_reducible refine Calls.mono CA.out ?_)
         rintro e w1 ⟨rfl, hb1⟩
         have HB1 := Lib.hid hb1
         clear hb1)
      | (go_at_call 10
         (with_reducible refine Calls.mono (CD.out _ (HRB.out.below HB1.out)) ?_)
         rintro e w2 ⟨rfl, hb2⟩
         have HB2 := Lib.hid (HB1.out.trans (hb2.mono HB1.out.size))
         clear hb2)
      | (go_at_call 11
         (with_reducible refine Calls.mono (CR.out _ (HRB.out.below HB2.out)) ?_)
         rintro e w3 ⟨rfl, hb3⟩
         have HB3 := Lib.hid (HB2.out.trans (hb3.mono HB2.out.size))
         have HX3 := Lib.hid (Blk.new w3 31 #[.int .i64 kind, .int .i64 from_, .int .i64 to_, .int .i64 root, .int .u16 boot, .int .u16 seq, .int .i64 hops, .int .i64 time, .int .i64 level, .int .i64 sent, .int .i64 got, .int .i64 back_, .int .i64 glob, .int .i64 tai])
         have HB4 := Lib.hid (HB3.out.alloc HB3.out.size (.cells #[.int .i64 kind, .int .i64 from_, .int .i64 to_, .int .i64 root, .int .u16 boot, .int .u16 seq, .int .i64 hops, .int .i64 time, .int .i64 level, .int .i64 sent, .int .i64 got, .int .i64 back_, .int .i64 glob, .int .i64 tai] 31))
         clear hb3))
    refine wp_region_seq [(0, true), (1, true), (2, true), (3, true), (5, true), (4, false), (6, true), (7, true), (8, true)] (fun w' => w'.cell? ⟨w3.heap.size, 0, none⟩ = some (.int .i64 kind) ∧ w'.cell? ⟨w3.heap.size, 1, none⟩ = some (.int .i64 from_) ∧ w'.cell? ⟨w3.heap.size, 2, none⟩ = some (.int .i64 to_) ∧ w'.cell? ⟨w3.heap.size, 3, none⟩ = some (.int .i64 root) ∧ w'.cell? ⟨w3.heap.size, 4, none⟩ = some (.int .u16 boot) ∧ w'.cell? ⟨w3.heap.size, 5, none⟩ = some (.int .u16 seq) ∧ w'.cell? ⟨w3.heap.size, 6, none⟩ = some (.int .i64 hops) ∧ w'.cell? ⟨w3.heap.size, 7, none⟩ = some (.int .i64 time) ∧ w'.cell? ⟨w3.heap.size, 8, none⟩ = some (.int .i64 level) ∧ w'.cell? ⟨w3.heap.size, 9, none⟩ = some (.int .i64 sent) ∧ w'.cell? ⟨w3.heap.size, 10, none⟩ = some (.int .i64 got) ∧ w'.cell? ⟨w3.heap.size, 11, none⟩ = some (.int .i64 back_) ∧ w'.cell? ⟨w3.heap.size, 12, none⟩ = some (.int .i64 glob) ∧ w'.cell? ⟨w3.heap.size, 13, none⟩ = some (.int .i64 tai)) (by kernel_rfl) (by kernel_rfl) (reads14 HX3.out) (fun hHeld => ?_)
    simp only [List.map_cons, List.map_nil, List.getElem?_toArray, List.getElem?_cons_zero, List.getElem?_cons_succ]
    repeat (first | (refine seq_skip (by rfl) ?_; try simp only [Act.put, List.setIfInBounds_toArray, List.set_cons_zero, List.set_cons_succ]) | (refine seq_not (by rfl) (by assumption) ?_; try simp only [Act.put, List.setIfInBounds_toArray, List.set_cons_zero, List.set_cons_succ]) | (refine seq_take (v := ?_) (by rfl) ?_ ?_; rotate_left; (focus ((intro w hSw; (try dsimp only at hSw); go_simp; (try with_reducible rfl)); done)); try simp only [Act.put, List.setIfInBounds_toArray, List.set_cons_zero, List.set_cons_succ]))
    refine seq_do (fun K hK => ?_)
    go_simp
    go_at_call 12
    (with_reducible refine Calls.mono (CP.out _) ?_)
    rintro e w5 ⟨rfl, hb5⟩
    have HX5 := Lib.hid (HX3.out.drew.keeps hb5)
    have HB5 := Lib.hid ((Pn.below_drew_ HB4.out).trans (hb5.mono HB4.out.size))
    dsimp only
    refine hK.out _ _ (reads14 HX5.out) (fun hHeld2 => ?_)
    clear hK K hHeld hb5
    repeat (first | (refine seq_skip (by rfl) ?_; try simp only [Act.put, List.setIfInBounds_toArray, List.set_cons_zero, List.set_cons_succ]) | (refine seq_not (by rfl) (by assumption) ?_; try simp only [Act.put, List.setIfInBounds_toArray, List.set_cons_zero, List.set_cons_succ]) | (refine seq_take (v := ?_) (by rfl) ?_ ?_; rotate_left; (focus ((intro w hSw; (try dsimp only at hSw); go_simp; (try with_reducible rfl)); done)); try simp only [Act.put, List.setIfInBounds_toArray, List.set_cons_zero, List.set_cons_succ]))
    refine seq_done ?_
    clear hHeld2 HG HE
    go_wp2
    go_ret
    exact ⟨rfl, HB5.out⟩
  · rw [show dv b = .nilIface from if_neg hE] at CD
    rw [show rpl b = pl0 from if_neg hE] at CR
    have q0 : (de b != 0) = true := bne_iff_ne.mpr hE
    have q1 : (de b == de b) = true := beq_self_eq_true _
    generalize de b = DE at CD CR q0 q1
    clear hE
    simp only [Pl.v, Pl.cs, pl0] at *
    go_enter Try.func3, Try.ntmps3
    go_wp2_with (first
      | (go_at_call 9
         (with_reducible refine Calls.mono CA.out ?_)
         rintro e w1 ⟨rfl, hb1⟩
         have HB1 := Lib.hid hb1
         clear hb1)
      | (go_at_call 10
         (with_reducible refine Calls.mono (CD.out _ (HRB.out.below HB1.out)) ?_)
         rintro e w2 ⟨rfl, hb2⟩
         have HB2 := Lib.hid (HB1.out.trans (hb2.mono HB1.out.size))
         clear hb2)
      | (go_at_call 11
         (with_reducible refine Calls.mono (CR.out _ (HRB.out.below HB2.out)) ?_)
         rintro e w3 ⟨rfl, hb3⟩
         have HB3 := Lib.hid (HB2.out.trans (hb3.mono HB2.out.size))
         clear hb3))
    go_ret
    exact ⟨rfl, HB3.out.alloc HB3.out.size _⟩
set_option linter.unusedVariables false in
theorem walk (a0 : Option Addr) (len0 cap0 : Nat) (z0 : List Int) (W : World) (w0 : Lf.IsRow .u8 W a0 len0 cap0 z0) (y0 : len0 * 1 ≤ 140737488351232) :
    Calls Try.prog 3 #[.slice a0 len0 cap0] W fun e w' => e = .returned (.bool true) ∧ Below W.heap.size W w' := by
  obtain ⟨m, rfl, hmc, hcm, hr, hmb⟩ := In.row_bytes w0
  exact core a0 cap0 m hmc W hr hmb
end Go.Proofs.Ytjkngcpmcmffmaa.FrameReadsW
