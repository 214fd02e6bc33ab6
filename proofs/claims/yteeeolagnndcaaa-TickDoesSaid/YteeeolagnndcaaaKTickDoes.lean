/- In every script each answer, the counter and the time of a clock are the document's; what can't be is refused; a nil clock. No condition. -/
import Derived.Test.YteeeolagnndcaaaTick
import Derived.Test.YteeeolagnndcaaaLf
import Derived.Deep.RegionHeld3
import Derived.IntWalk
namespace Go.Proofs.Yteeeolagnndcaaa.TickDoesW
open Go.RowKit Go.Proofs.Yteeeolagnndcaaa.Bk Go.Proofs.Yteeeolagnndcaaa.Tick

theorem new_no (d : Int) (w : World) (h : d < 0 ∨ 10 < d) :
    Calls Try.prog 7 #[.int .i64 d] w fun e w' => e = .returned (.tuple #[.pointer none, .int .i64 1]) ∧ w = w' := by
  rcases h with h | h
  · go_enter Try.func7, Try.ntmps7
    go_wp2
    go_ret2
    exact ⟨rfl, rfl⟩
  · have h2 : ¬ d < 0 := by omega
    go_enter Try.func7, Try.ntmps7
    go_wp2
    go_ret2
    exact ⟨rfl, rfl⟩
theorem nil_boot (raw : Int) (w : World) : Calls Try.prog 8 #[.pointer none, .int .u32 raw] w fun e w' => e = .returned (.tuple #[]) ∧ w = w' := by
  go_enter Try.func8, Try.ntmps8
  go_wp2
  go_end0
  exact ⟨rfl, rfl⟩
theorem nil_go (t : Int) (w : World) : Calls Try.prog 9 #[.pointer none, .int .i64 t] w fun e w' => e = .returned (.int .i64 2) ∧ w = w' := by
  go_enter Try.func9, Try.ntmps9
  go_wp2
  go_ret
  exact ⟨rfl, rfl⟩
theorem nil_fits (t : Int) (w : World) : Calls Try.prog 10 #[.pointer none, .int .i64 t] w fun e w' => e = .returned (.bool false) ∧ w = w' := by
  go_enter Try.func10, Try.ntmps10
  go_wp2
  go_ret
  exact ⟨rfl, rfl⟩
theorem nil_now (w : World) : Calls Try.prog 11 #[.pointer none] w fun e w' => e = .returned (.int .i64 0) ∧ w = w' := by
  go_enter Try.func11, Try.ntmps11
  go_wp2
  go_ret
  exact ⟨rfl, rfl⟩
theorem nil_counter (w : World) : Calls Try.prog 12 #[.pointer none] w fun e w' => e = .returned (.int .u32 0) ∧ w = w' := by
  go_enter Try.func12, Try.ntmps12
  go_wp2
  go_ret
  exact ⟨rfl, rfl⟩

/-- The document's clock at block q. -/
def Ref (w : World) (q : Nat) (d n : Int) : Prop := Blk w q 36 #[.int .i64 d, .int .i64 n]
theorem ref_no (q : Nat) (d n t : Int) (w : World) (hb : Ref w q d n) (h0 : 0 ≤ d) (h1 : d ≤ 10) (hf : fits d t = false) :
    Calls Try.prog 13 #[.pointer (some ⟨q, 0, none⟩), .int .i64 t] w fun e w' => e = .returned (.int .i64 1) ∧ w = w' := by
  have hft : ¬ (1000 - d ≤ t ∧ t ≤ 1000 + d) := of_decide_eq_false hf
  have c0 : w.cell? ⟨q, 0, none⟩ = some (.int .i64 d) := hb.cell 0
  clear hb hf
  by_cases h : t < 1000 - d
  · clear hft
    go_enter Try.func13, Try.ntmps13
    go_wp2
    go_ret
    exact ⟨rfl, rfl⟩
  · have h2 : 1000 + d < t := by omega
    clear hft
    go_enter Try.func13, Try.ntmps13
    go_wp2
    go_ret
    exact ⟨rfl, rfl⟩
theorem ref_yes (q : Nat) (d n t : Int) (w : World) (hb : Ref w q d n) (h0 : 0 ≤ d) (h1 : d ≤ 10) (hf : fits d t = true) (hn : 0 ≤ n) (hn1 : n ≤ 1000000000000000) :
    Calls Try.prog 13 #[.pointer (some ⟨q, 0, none⟩), .int .i64 t] w fun e w' => e = .returned (.int .i64 0) ∧ Ref w' q d (n + t) ∧ w.grownBy w' (some q) := by
  have hft : 1000 - d ≤ t ∧ t ≤ 1000 + d := of_decide_eq_true hf
  obtain ⟨f1, f2⟩ := hft
  have c0 : w.cell? ⟨q, 0, none⟩ = some (.int .i64 d) := hb.cell 0
  have c1 : w.cell? ⟨q, 1, none⟩ = some (.int .i64 n) := hb.cell 1
  have z1 := hb.frozen 1
  have H := Lib.hid hb
  clear hb hf
  go_enter Try.func13, Try.ntmps13
  go_wp2
  go_ret
  exact ⟨rfl, (H.out : Ref w q d n).set_ 1 (.int .i64 (n + t)), turned_set (turned_refl w _) _ _⟩

theorem early (a0 : Int) (a1 : Option Addr) (len1 cap1 : Nat) (W : World) (h : (200 : Int) < len1) :
    Calls Try.prog 3 #[.int .i64 a0, .slice a1 len1 cap1] W fun e w' => e = .returned (.bool true) ∧ Below W.heap.size W w' := by
  go_enter Try.func3, Try.ntmps3
  go_wp2_with (go_at_call 6; refine (alive_ok _).mono ?_; rintro e w1 ⟨rfl, hb⟩)
  go_ret
  exact ⟨rfl, ‹_›⟩

set_option maxRecDepth 100000 in
set_option maxHeartbeats 1000000 in
theorem refused_lo (a0 : Int) (a1 : Option Addr) (len1 cap1 : Nat) (W : World) (h : ¬ (200 : Int) < len1) (hd : a0 < 0) :
    Calls Try.prog 3 #[.int .i64 a0, .slice a1 len1 cap1] W fun e w' => e = .returned (.bool true) ∧ Below W.heap.size W w' := by
  have N := Lib.hid (fun w => new_no a0 w (by omega))
  go_enter Try.func3, Try.ntmps3
  go_wp2_with fail
  refine (alive_ok _).mono ?_
  rintro e w1 ⟨rfl, hb⟩
  have B := Lib.hid hb
  clear hb
  go_wp2_with fail
  refine (N.out _).mono ?_
  rintro e w2 ⟨rfl, rfl⟩
  go_wp2_with fail
  refine (nil_boot _ _).mono ?_
  rintro e w2 ⟨rfl, rfl⟩
  go_wp2_with (first | (go_at_call 9; refine (nil_go _ _).mono ?_; rintro e w' ⟨rfl, rfl⟩) | (go_at_call 10; refine (nil_fits _ _).mono ?_; rintro e w' ⟨rfl, rfl⟩) | (go_at_call 11; refine (nil_now _).mono ?_; rintro e w' ⟨rfl, rfl⟩) | (go_at_call 12; refine (nil_counter _).mono ?_; rintro e w' ⟨rfl, rfl⟩))
  go_ret
  exact ⟨rfl, B.out⟩
set_option maxRecDepth 100000 in
set_option maxHeartbeats 1000000 in
theorem refused_hi (a0 : Int) (a1 : Option Addr) (len1 cap1 : Nat) (W : World) (h : ¬ (200 : Int) < len1) (hd : 10 < a0) :
    Calls Try.prog 3 #[.int .i64 a0, .slice a1 len1 cap1] W fun e w' => e = .returned (.bool true) ∧ Below W.heap.size W w' := by
  have N := Lib.hid (fun w => new_no a0 w (by omega))
  have hd2 : ¬ a0 < 0 := by omega
  go_enter Try.func3, Try.ntmps3
  go_wp2_with fail
  refine (alive_ok _).mono ?_
  rintro e w1 ⟨rfl, hb⟩
  have B := Lib.hid hb
  clear hb
  go_wp2_with fail
  refine (N.out _).mono ?_
  rintro e w2 ⟨rfl, rfl⟩
  go_wp2_with fail
  refine (nil_boot _ _).mono ?_
  rintro e w2 ⟨rfl, rfl⟩
  go_wp2_with (first | (go_at_call 9; refine (nil_go _ _).mono ?_; rintro e w' ⟨rfl, rfl⟩) | (go_at_call 10; refine (nil_fits _ _).mono ?_; rintro e w' ⟨rfl, rfl⟩) | (go_at_call 11; refine (nil_now _).mono ?_; rintro e w' ⟨rfl, rfl⟩) | (go_at_call 12; refine (nil_counter _).mono ?_; rintro e w' ⟨rfl, rfl⟩))
  go_ret
  exact ⟨rfl, B.out⟩

theorem elem1 {w : World} {A : Option Addr} {len : Nat} {vs : List (List Value)} (h : Lf.RowsAt w [.b, .i .u32, .i .i64] A len vs) {k : Nat} (hk : k < len) :
    ∃ (ad : Addr) (x0 : Bool) (x1 : Int) (x2 : Int), A = some ad ∧ vs[k]? = some [.bool x0, .int .u32 x1, .int .i64 x2] ∧ w.cell? (ad.add (k * 3)) = some (.bool x0) ∧ w.cell? ⟨(ad.add (k * 3)).block, (ad.add (k * 3)).off + 1, none⟩ = some (.int .u32 x1) ∧ w.cell? ⟨(ad.add (k * 3)).block, (ad.add (k * 3)).off + 2, none⟩ = some (.int .i64 x2) ∧ (Lit.int .u32 x1).wf = true ∧ (Lit.int .i64 x2).wf = true := by
  obtain ⟨ad, c, rfl, hv, hL, hc0, hcj⟩ := h.elem hk
  obtain ⟨u0, g0, q0, ⟨x0, e0⟩, L0⟩ := hL.cons
  obtain ⟨u1, g1, q1, ⟨x1, e1, f1⟩, L1⟩ := L0.cons
  obtain ⟨u2, g2, q2, ⟨x2, e2, f2⟩, L2⟩ := L1.cons
  have n_ := L2.nil
  have hcc : c = [.bool x0, .int .u32 x1, .int .i64 x2] := by rw [q0, e0, q1, e1, q2, e2, n_]
  rw [hcc] at hv hc0 hcj
  exact ⟨ad, x0, x1, x2, rfl, hv, hc0 _ rfl, hcj 0 _ rfl, hcj 1 _ rfl, f1, f2⟩

set_option maxRecDepth 100000 in
set_option maxHeartbeats 4000000 in
set_option linter.unusedVariables false in
theorem walk (a0 : Int) (a1 : Option Addr) (len1 cap1 : Nat) (z1 : List (List Value)) (W : World) (w0 : (Lit.int .i64 a0).wf = true) (l1 : len1 ≤ cap1) (m1 : cap1 ≤ maxLen) (w1 : Lf.RowsAt W [.b, .i .u32, .i .i64] a1 len1 z1) :
    Calls Try.prog 3 #[.int .i64 a0, .slice a1 len1 cap1] W fun e w' => e = .returned (.bool true) ∧ Below W.heap.size W w' := by
  have hl8 : len1 ≤ 9223372036854775807 := by unfold maxLen at m1; omega
  have b0 := bounds_i64 w0
  have R := Lib.hid w1
  clear w0 w1 m1
  by_cases c3 : (200 : Int) < len1
  · exact early a0 a1 len1 cap1 W c3
  · by_cases c1 : a0 < 0 ∨ 10 < a0
    · rcases c1 with c1 | c1
      · exact refused_lo a0 a1 len1 cap1 W c3 c1
      · exact refused_hi a0 a1 len1 cap1 W c3 c1
    · have c1' : 0 ≤ a0 := by omega
      have c2' : a0 ≤ 10 := by omega
      clear c1
      go_enter Try.func3, Try.ntmps3
      go_wp2_with fail
      refine (alive_ok _).mono ?_
      rintro e w1 ⟨rfl, hb⟩
      have B1 := Lib.hid hb
      clear hb
      go_wp2_with fail
      refine (new_ok a0 _ c1' c2').mono ?_
      rintro e w2 ⟨rfl, rfl⟩
      have hc0 : Clk (w1.alloc (.cells #[.int .i64 a0, .int .u32 0, .int .i64 0] 45)) w1.heap.size a0 0 0 := Blk.new _ _ _
      have hb0 : Below W.heap.size W (w1.alloc (.cells #[.int .i64 a0, .int .u32 0, .int .i64 0] 45)) := B1.out.alloc B1.out.size _
      have hp : W.heap.size ≤ w1.heap.size := B1.out.size
      generalize w1.alloc (.cells #[.int .i64 a0, .int .u32 0, .int .i64 0] 45) = w2 at hc0 hb0
      generalize w1.heap.size = p at hc0 hp
      have H0 := Lib.hid hc0
      have B0 := Lib.hid hb0
      clear hc0 hb0 B1
      go_wp2_with fail
      refine (nil_boot _ _).mono ?_
      rintro e w3 ⟨rfl, rfl⟩
      go_wp2_with (first | (go_at_call 9; refine (nil_go _ _).mono ?_; rintro e w' ⟨rfl, rfl⟩) | (go_at_call 10; refine (nil_fits _ _).mono ?_; rintro e w' ⟨rfl, rfl⟩) | (go_at_call 11; refine (nil_now _).mono ?_; rintro e w' ⟨rfl, rfl⟩) | (go_at_call 12; refine (nil_counter _).mono ?_; rintro e w' ⟨rfl, rfl⟩))
      have hr0 : Ref (w2.alloc (.cells #[.int .i64 a0, .int .i64 0] 36)) w2.heap.size a0 0 := Blk.new _ _ _
      have hq : p < w2.heap.size := Blk.lt H0.out
      go_loopw [57] (fun i wr => ∃ (k : Nat) (n : Int), k ≤ len1 ∧ i = .int .i64 k ∧ 0 ≤ n ∧ n ≤ 4294967295 + 1010 * k ∧ Clk wr p a0 (n % 4294967296) n ∧ Ref wr w2.heap.size a0 n ∧ Below W.heap.size W wr) (fun i _ => len1 - (intOf i).toNat)
      case atStart => exact ⟨0, 0, Nat.zero_le _, rfl, by omega, by omega, Blk.alloc H0.out _, hr0, B0.out.alloc B0.out.size _⟩
      case round =>
        obtain ⟨k, n, hk, rfl, hn0, hn1, hc, hr, hb⟩ := hrel
        have hqs : w2.heap.size < wr.heap.size := Blk.lt hr
        generalize w2.heap.size = q at hr0 hq hr hqs
        have H2 := Lib.hid hc
        have G2 := Lib.hid hr
        have B2 := Lib.hid hb
        clear hc hr hb hr0 H0 B0
        by_cases hlt : k < len1
        · obtain ⟨ad, b, raw, t, rfl, _, e0, e1, e2, wraw, wt⟩ := elem1 (R.out.below B2.out) hlt
          have bw := bounds_u32 wraw
          have bt := bounds_i64 wt
          clear wraw wt
          have hqp : q ≠ p := by omega
          have hbx1 : wr.heap.size ≠ p := by omega
          have hbx2 : wr.heap.size ≠ q := by omega
          have H3 := Lib.hid (Blk.alloc H2.out (.cells #[.bool b, .int .u32 raw, .int .i64 t] 38))
          have G3 := Lib.hid (Blk.alloc G2.out (.cells #[.bool b, .int .u32 raw, .int .i64 t] 38))
          have X3 := Lib.hid (Blk.new wr 38 #[.bool b, .int .u32 raw, .int .i64 t])
          have B3 := Lib.hid (B2.out.alloc B2.out.size (.cells #[.bool b, .int .u32 raw, .int .i64 t] 38))
          clear H2 G2
          cases b with
          | true =>
            go_wp2_with fail
            generalize wr.alloc (.cells #[.bool true, .int .u32 raw, .int .i64 t] 38) = w5 at H3 G3 X3 B3 ⊢
            generalize wr.heap.size = bx at hbx1 hbx2 X3 hqs ⊢
            clear e0 e1 e2 B2
            refine (boot_ok p a0 _ _ raw _ H3.out bw.1 bw.2).mono ?_
            rintro e w6 ⟨rfl, hc, hg⟩
            have H4 : Hid (Clk w6 p a0 (raw % 4294967296) raw) := by rw [Int.emod_eq_of_lt bw.1 (by omega)]; exact hc
            have G4 := Lib.hid (Blk.grown G3.out hg (fun e => by injection e with e; omega))
            have X4 := Lib.hid (Blk.grown X3.out hg (fun e => by injection e with e; omega))
            have B4 := Lib.hid (below_turned B3.out B3.out.size hg hp)
            clear hc hg H3 G3 X3 B3
            have x1 : w6.cell? ⟨bx, 1, none⟩ = some (.int .u32 raw) := Blk.cell X4.out 1
            have g1 : w6.cell? ⟨q, 1, none⟩ = some (.int .i64 n) := Blk.cell G4.out 1
            have g2 := Blk.frozen G4.out 1
            go_wp2
            have H5 := Lib.hid (Blk.far (p := ⟨q, 1, none⟩) H4.out (show p ≠ q by omega) (.int .i64 raw))
            have G5 := Lib.hid (Blk.set_ G4.out 1 (.int .i64 raw))
            have B5 := Lib.hid (B4.out.setCell (p := ⟨q, 1, none⟩) (show W.heap.size ≤ q by omega) (.int .i64 raw))
            have BW := Lib.hid bw
            clear x1 g1 g2 bw
            generalize w6.setCell ⟨q, 1, none⟩ (.int .i64 raw) = w7 at H5 G5 B5 ⊢
            have g1 : w7.cell? ⟨q, 1, none⟩ = some (.int .i64 raw) := Blk.cell G5.out 1
            go_quiet ((first | (go_at_call 11; go_must (exact Calls.quiet_of_same (sym (now_ok p a0 (raw % 4294967296) raw _ (Blk.drewN H5.out _))))) | (go_at_call 12; exact Calls.quiet_of_same (sym (counter_ok p a0 (raw % 4294967296) raw _ (Blk.drewN H5.out _))))))
            go_wp2
            go_roundw
            case rel => exact ⟨k + 1, raw, by omega, by go_num, BW.out.1, by have := BW.out.2; omega, Blk.drewN H5.out _, Blk.drewN G5.out _, below_drewN_ B5.out _⟩
            case measure => simp [intOf]; omega
          | false =>
            by_cases hf : fits a0 t = true
            · have hft : 1000 - a0 ≤ t ∧ t ≤ 1000 + a0 := of_decide_eq_true hf
              obtain ⟨hf1, hf2⟩ := hft
              have F := Lib.hid hf
              clear hf
              go_wp2
              generalize wr.alloc (.cells #[.bool false, .int .u32 raw, .int .i64 t] 38) = w5 at H3 G3 X3 B3 ⊢
              generalize wr.heap.size = bx at hbx1 hbx2 X3 hqs ⊢
              have x2 : w5.cell? ⟨bx, 2, none⟩ = some (.int .i64 t) := Blk.cell X3.out 2
              clear e0 e1 e2 B2 bw
              have d1 : decide (1000 - a0 ≤ t) = true := decide_eq_true hf1
              have d2 : decide (t ≤ 1000 + a0) = true := decide_eq_true hf2
              have C10 := Lib.hid (fun w (h : Clk w p a0 (n % 4294967296) n) => fits_ok p a0 _ n t w h c1' c2')
              have C9 := Lib.hid (fun w (h : Clk w p a0 (n % 4294967296) n) => go_yes p a0 n t w h c1' c2' F.out hn0 (by omega))
              have C13 := Lib.hid (fun w (h : Ref w q a0 n) => ref_yes q a0 n t w h c1' c2' F.out hn0 (by omega))
              have hb1 : some bx ≠ some p := fun e => by injection e with e; exact hbx1 e
              have hb2 : some bx ≠ some q := fun e => by injection e with e; exact hbx2 e
              have hq1 : some q ≠ some p := fun e => by injection e with e; exact hqp e
              have s1 : IntKind.i64.wrap (1000 - a0) = 1000 - a0 := IntWalk.i64_in _ (by omega)
              have s2 : IntKind.i64.wrap (1000 + a0) = 1000 + a0 := IntWalk.i64_in _ (by omega)
              go_region_held3 (fun w' => w'.cell? ⟨bx, 2, none⟩ = some (.int .i64 t)) (first | assumption | go_keep) (first | (go_at_call 10; refine (C10.out _ (by exact H3.out)).mono ?_; rw [F.out]; rintro e w6 ⟨rfl, rfl⟩) | (go_at_call 9; refine (C9.out _ (by exact H3.out)).mono ?_; rintro e w6 ⟨rfl, hc, hg⟩; have x6 : w6.cell? ⟨bx, 2, none⟩ = some (.int .i64 t) := hg.cell (by exact Blk.cell X3.out 2) hb1; have H4 := Lib.hid hc; have K4 := Lib.hid hg; clear hc hg) | (go_at_call 13; refine (C13.out _ (by exact Blk.grown (Blk.drew G3.out) K4.out hq1)).mono ?_; rintro e w7 ⟨rfl, hr, hg2⟩; have x7 : w7.cell? ⟨bx, 2, none⟩ = some (.int .i64 t) := hg2.cell (by assumption) hb2; have G4 := Lib.hid hr; have K5 := Lib.hid hg2; clear hr hg2))
              clear s1 s2 d1 d2 x2 x6 x7
              have H5 := Lib.hid (Blk.grown H4.out K5.out (Ne.symm hq1))
              have B5 := Lib.hid (below_turned (below_turned B3.out.drew B3.out.size K4.out hp) (Nat.le_trans B3.out.size K4.out.size) K5.out (show W.heap.size ≤ q by omega))
              have hn2 : 0 ≤ n + t := by omega
              have hn3 : n + t ≤ 4294967295 + 1010 * (k + 1) := by omega
              go_wp2
              have g1 : w7.cell? ⟨q, 1, none⟩ = some (.int .i64 (n + t)) := Blk.cell G4.out 1
              go_quiet ((first | (go_at_call 11; exact Calls.quiet_of_same (sym (now_ok p a0 ((n + t) % 4294967296) (n + t) _ (Blk.drewN H5.out _)))) | (go_at_call 12; exact Calls.quiet_of_same (sym (counter_ok p a0 ((n + t) % 4294967296) (n + t) _ (Blk.drewN H5.out _))))))
              go_wp2
              go_roundw
              case rel => exact ⟨k + 1, n + t, by omega, by go_num, hn2, by push_cast; exact hn3, Blk.drewN H5.out _, Blk.drewN G4.out _, below_drewN_ B5.out _⟩
              case measure => simp [intOf]; omega
            · have F := Lib.hid (show fits a0 t = false by simpa using hf)
              have hft : ¬ (1000 - a0 ≤ t ∧ t ≤ 1000 + a0) := fun h => hf (decide_eq_true h)
              clear hf
              go_wp2
              generalize wr.alloc (.cells #[.bool false, .int .u32 raw, .int .i64 t] 38) = w5 at H3 G3 X3 B3 ⊢
              generalize wr.heap.size = bx at hbx1 hbx2 X3 hqs ⊢
              have x2 : w5.cell? ⟨bx, 2, none⟩ = some (.int .i64 t) := Blk.cell X3.out 2
              clear e0 e1 e2 B2 bw
              have C10 := Lib.hid (fun w (h : Clk w p a0 (n % 4294967296) n) => fits_ok p a0 _ n t w h c1' c2')
              have C9 := Lib.hid (fun w (h : Clk w p a0 (n % 4294967296) n) => go_no p a0 _ n t w h c1' c2' F.out)
              have C13 := Lib.hid (fun w (h : Ref w q a0 n) => ref_no q a0 n t w h c1' c2' F.out)
              by_cases hf1 : 1000 - a0 ≤ t
              · have hf2 : ¬ t ≤ 1000 + a0 := fun h => hft ⟨hf1, h⟩
                clear hft
                rw [F.out] at C10
                go_quiet ((first | (go_at_call 10; exact Calls.quiet_of_same (sym (C10.out _ (Blk.drewN H3.out _)))) | (go_at_call 9; exact Calls.quiet_of_same (sym (C9.out _ (Blk.drewN H3.out _)))) | (go_at_call 13; exact Calls.quiet_of_same (sym (C13.out _ (Blk.drewN G3.out _))))))
                clear C9 C10 C13
                go_wp2
                have H5 : Hid (Clk (w5.drewN nq) p a0 (n % 4294967296) n) := Blk.drewN H3.out _
                have G5 : Hid (Ref (w5.drewN nq) q a0 n) := Blk.drewN G3.out _
                have B5 := Lib.hid (below_drewN_ B3.out nq)
                clear x2
                generalize w5.drewN nq = w6 at H5 G5 B5 ⊢
                have g1 : w6.cell? ⟨q, 1, none⟩ = some (.int .i64 n) := Blk.cell G5.out 1
                go_quiet ((first | (go_at_call 11; exact Calls.quiet_of_same (sym (now_ok p a0 (n % 4294967296) n _ (Blk.drewN H5.out _)))) | (go_at_call 12; exact Calls.quiet_of_same (sym (counter_ok p a0 (n % 4294967296) n _ (Blk.drewN H5.out _))))))
                go_wp2
                go_roundw
                case rel => exact ⟨k + 1, n, by omega, by go_num, by omega, by omega, Blk.drewN H5.out _, Blk.drewN G5.out _, below_drewN_ B5.out _⟩
                case measure => simp [intOf]; omega
              · clear hft
                rw [F.out] at C10
                go_quiet ((first | (go_at_call 10; exact Calls.quiet_of_same (sym (C10.out _ (Blk.drewN H3.out _)))) | (go_at_call 9; exact Calls.quiet_of_same (sym (C9.out _ (Blk.drewN H3.out _)))) | (go_at_call 13; exact Calls.quiet_of_same (sym (C13.out _ (Blk.drewN G3.out _))))))
                clear C9 C10 C13
                go_wp2
                have H5 : Hid (Clk (w5.drewN nq) p a0 (n % 4294967296) n) := Blk.drewN H3.out _
                have G5 : Hid (Ref (w5.drewN nq) q a0 n) := Blk.drewN G3.out _
                have B5 := Lib.hid (below_drewN_ B3.out nq)
                clear x2
                generalize w5.drewN nq = w6 at H5 G5 B5 ⊢
                have g1 : w6.cell? ⟨q, 1, none⟩ = some (.int .i64 n) := Blk.cell G5.out 1
                go_quiet ((first | (go_at_call 11; exact Calls.quiet_of_same (sym (now_ok p a0 (n % 4294967296) n _ (Blk.drewN H5.out _)))) | (go_at_call 12; exact Calls.quiet_of_same (sym (counter_ok p a0 (n % 4294967296) n _ (Blk.drewN H5.out _))))))
                go_wp2
                go_roundw
                case rel => exact ⟨k + 1, n, by omega, by go_num, by omega, by omega, Blk.drewN H5.out _, Blk.drewN G5.out _, below_drewN_ B5.out _⟩
                case measure => simp [intOf]; omega
        · go_wp2
          go_ret
          exact ⟨rfl, B2.out⟩
end Go.Proofs.Yteeeolagnndcaaa.TickDoesW
