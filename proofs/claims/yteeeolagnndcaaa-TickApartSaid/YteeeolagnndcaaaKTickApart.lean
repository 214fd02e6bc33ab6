/- Time never goes back, and two clocks that make as many steps go by no more than twice the drift a step apart. No condition. -/
import Derived.Test.YteeeolagnndcaaaTick
import Derived.Test.YteeeolagnndcaaaLf
namespace Go.Proofs.Yteeeolagnndcaaa.TickApartW
open Go.RowKit Go.Proofs.Yteeeolagnndcaaa.Bk Go.Proofs.Yteeeolagnndcaaa.Tick
theorem row_cell {W : World} {a : Option Addr} {len cap : Nat} {z : List Int} {k : IntKind} (h : Lf.IsRow k W a len cap z) {i : Nat} (hi : i < len) : ∃ x, a = some x ∧ W.cell? (x.add i) = some (.int k (z.getD i 0)) ∧ (Lit.int k (z.getD i 0)).wf = true ∧ x.block < W.heap.size := by
  rcases h with ⟨_, rfl, _, _⟩ | ⟨x, rfl, hl, _, hz, hc, hw⟩
  · omega
  · have h1 := hc i (by omega)
    refine ⟨x, rfl, h1, ?_, ?_⟩
    · rw [List.getD_eq_getElem?_getD, List.getElem?_eq_getElem (by omega)]
      exact hw _ (List.getElem_mem _)
    · have := World.block_lt_of_cell? W _ h1
      rwa [show (x.add i).block = x.block by unfold Addr.add; split <;> rfl] at this
theorem row_below {W w : World} {a : Option Addr} {len cap : Nat} {z : List Int} {k : IntKind} (h : Lf.IsRow k W a len cap z) (hb : Below W.heap.size W w) {i : Nat} (hi : i < len) : ∃ x, a = some x ∧ w.cell? (x.add i) = some (.int k (z.getD i 0)) ∧ (Lit.int k (z.getD i 0)).wf = true := by
  obtain ⟨x, e, h1, h2, h3⟩ := row_cell h hi
  refine ⟨x, e, ?_, h2⟩
  rw [← h1]
  exact hb.cell (by unfold Addr.add; split <;> exact h3)

set_option maxRecDepth 100000 in
set_option maxHeartbeats 4000000 in
set_option linter.unusedVariables false in
theorem walk (a0 : Int) (a1 : Option Addr) (len1 cap1 : Nat) (z1 : List Int) (a2 : Option Addr) (len2 cap2 : Nat) (z2 : List Int) (W : World) (w0 : (Lit.int .i64 a0).wf = true) (w1 : Lf.IsRow .i64 W a1 len1 cap1 z1) (y1 : len1 * 8 ≤ 140737488351232) (w2 : Lf.IsRow .i64 W a2 len2 cap2 z2) (y2 : len2 * 8 ≤ 140737488351232) :
    Calls Try.prog 4 #[.int .i64 a0, .slice a1 len1 cap1, .slice a2 len2 cap2] W fun e w' => e = .returned (.bool true) ∧ Below W.heap.size W w' := by
  have hl8 : len1 ≤ 17592186044404 := by omega
  have hl9 : len2 ≤ 17592186044404 := by omega
  have b0 := bounds_i64 w0
  have R := Lib.hid w1
  have S := Lib.hid w2
  clear w0 w1 w2 y1 y2
  by_cases c1 : a0 < 0
  · go_enter Try.func4, Try.ntmps4
    go_wp2_with (go_at_call 6; refine (alive_ok _).mono ?_; rintro e w1 ⟨rfl, hb⟩)
    go_ret
    exact ⟨rfl, ‹_›⟩
  · by_cases c2 : (10 : Int) < a0
    · go_enter Try.func4, Try.ntmps4
      go_wp2_with (go_at_call 6; refine (alive_ok _).mono ?_; rintro e w1 ⟨rfl, hb⟩)
      go_ret
      exact ⟨rfl, ‹_›⟩
    · have c1' : 0 ≤ a0 := by omega
      have c2' : a0 ≤ 10 := by omega
      clear c1 c2
      by_cases c3 : (200 : Int) < len1
      · go_enter Try.func4, Try.ntmps4
        go_wp2_with (go_at_call 6; refine (alive_ok _).mono ?_; rintro e w1 ⟨rfl, hb⟩)
        go_ret
        exact ⟨rfl, ‹_›⟩
      · by_cases c4 : len2 < len1
        · go_enter Try.func4, Try.ntmps4
          go_wp2_with (go_at_call 6; refine (alive_ok _).mono ?_; rintro e w1 ⟨rfl, hb⟩)
          go_ret
          exact ⟨rfl, ‹_›⟩
        · go_enter Try.func4, Try.ntmps4
          go_wp2_with fail
          refine (alive_ok _).mono ?_
          rintro e w1 ⟨rfl, hb⟩
          have B1 := Lib.hid hb
          clear hb
          go_wp2_with fail
          refine (new_ok a0 _ c1' c2').mono ?_
          rintro e w2 ⟨rfl, rfl⟩
          have hc0 : Clk (w1.alloc (.cells #[.int .i64 a0, .int .u32 0, .int .i64 0] 45)) w1.heap.size a0 0 0 := Blk.new _ _ _
          have hb0 : Below W.heap.size W (w1.alloc (.cells #[.int .i64 a0, .int .u32 0, .int .i64 0] 45)) := B1.out.alloc B1.out.size _
          have hp : W.heap.size ≤ w1.heap.size := B1.out.size
          generalize w1.alloc (.cells #[.int .i64 a0, .int .u32 0, .int .i64 0] 45) = w2 at hc0 hb0
          generalize w1.heap.size = p at hc0 hp
          have H0 := Lib.hid hc0
          have B0 := Lib.hid hb0
          clear hc0 hb0 B1
          go_wp2_with fail
          refine (new_ok a0 _ c1' c2').mono ?_
          rintro e w3 ⟨rfl, rfl⟩
          have hc1 : Clk (w2.alloc (.cells #[.int .i64 a0, .int .u32 0, .int .i64 0] 45)) w2.heap.size a0 0 0 := Blk.new _ _ _
          have hc2 : Clk (w2.alloc (.cells #[.int .i64 a0, .int .u32 0, .int .i64 0] 45)) p a0 0 0 := Blk.alloc H0.out _
          have hb1 : Below W.heap.size W (w2.alloc (.cells #[.int .i64 a0, .int .u32 0, .int .i64 0] 45)) := B0.out.alloc B0.out.size _
          have hpq : p < w2.heap.size := Blk.lt H0.out
          generalize w2.alloc (.cells #[.int .i64 a0, .int .u32 0, .int .i64 0] 45) = w3 at hc1 hc2 hb1
          generalize w2.heap.size = q at hc1 hpq
          have H1 := Lib.hid hc2
          have G1 := Lib.hid hc1
          have B1 := Lib.hid hb1
          clear hc1 hc2 hb1 H0 B0
          go_wp2
          go_loopw [11, 48] (fun x i wr => ∃ (k m : Nat) (n u : Int), k ≤ len1 ∧ m ≤ k ∧ i = .int .i64 k ∧ x = .int .i64 m ∧ 0 ≤ n ∧ n ≤ 1010 * k ∧ 0 ≤ u ∧ u ≤ 1010 * k ∧ n - u ≤ 2 * m * a0 ∧ u - n ≤ 2 * m * a0 ∧ Clk wr p a0 (n % 4294967296) n ∧ Clk wr q a0 (u % 4294967296) u ∧ Below W.heap.size W wr) (fun _ i _ => len1 - (intOf i).toNat)
          case atStart => exact ⟨0, 0, 0, 0, Nat.zero_le _, Nat.zero_le _, rfl, rfl, by omega, by omega, by omega, by omega, by omega, by omega, H1.out, G1.out, B1.out⟩
          case round =>
            obtain ⟨k, m, n, u, hk, hm, rfl, rfl, hn0, hn1, hu0, hu1, hd1, hd2, hc, hc', hb⟩ := hrel
            have H2 := Lib.hid hc
            have G2 := Lib.hid hc'
            have B2 := Lib.hid hb
            clear hc hc' hb H1 G1 B1
            by_cases hlt : k < len1
            · obtain ⟨x, rfl, hx2, hxw⟩ := row_below R.out B2.out hlt
              have bx := bounds_i64 hxw
              generalize z1.getD k 0 = t at hx2 bx
              clear hxw
              obtain ⟨y, rfl, hy2, hyw⟩ := row_below S.out B2.out (show k < len2 by omega)
              have by_ := bounds_i64 hyw
              obtain ⟨v, hv⟩ : ∃ v, z2.getD k 0 = v := ⟨_, rfl⟩
              rw [hv] at hy2 by_
              have V := Lib.hid hv
              clear hyw hv
              by_cases hf : fits a0 t = true
              · have F := Lib.hid hf
                clear hf
                by_cases hg : fits a0 v = true
                · have G := Lib.hid hg
                  clear hg
                  have ft : 1000 - a0 ≤ t ∧ t ≤ 1000 + a0 := of_decide_eq_true F.out
                  have fv : 1000 - a0 ≤ v ∧ v ≤ 1000 + a0 := of_decide_eq_true G.out
                  obtain ⟨ft1, ft2⟩ := ft
                  obtain ⟨fv1, fv2⟩ := fv
                  have hP0 : 0 ≤ (m : Int) * a0 := Int.mul_nonneg (by omega) c1'
                  have hP1 : (m : Int) * a0 ≤ 200 * 10 := Int.mul_le_mul (by omega) c2' c1' (by omega)
                  have hP2 : 2 * ((m : Int) + 1) * a0 = 2 * m * a0 + 2 * a0 := by rw [Int.mul_add, Int.add_mul]; omega
                  have hP3 : 2 * (m : Int) * a0 = 2 * (m * a0) := Int.mul_assoc _ _ _
                  have hP4 : -2 * ((m : Int) + 1) * a0 = -(2 * (m + 1) * a0) := by rw [Int.neg_mul, Int.neg_mul]
                  have q1 : 0 ≤ 2 * ((m : Int) + 1) * a0 := by omega
                  have q2 : 2 * ((m : Int) + 1) * a0 ≤ 4020 := by omega
                  have q3 : -2 * ((m : Int) + 1) * a0 ≤ 0 := by omega
                  have q4 : -4020 ≤ -2 * ((m : Int) + 1) * a0 := by omega
                  have q5 : (n + t) - (u + v) ≤ 2 * ((m : Int) + 1) * a0 := by omega
                  have q6 : -2 * ((m : Int) + 1) * a0 ≤ (n + t) - (u + v) := by omega
                  have q7 : (u + v) - (n + t) ≤ 2 * ((m : Int) + 1) * a0 := by omega
                  clear hP0 hP1 hP2 hP3 hP4 hd1 hd2
                  have T1 := fits_ok p a0 _ n t _ H2.out c1' c2'
                  have T2 := fits_ok q a0 _ u v _ G2.out c1' c2'
                  rw [F.out] at T1
                  rw [G.out] at T2
                  have U1 := Lib.hid T1
                  have U2 := Lib.hid T2
                  clear T1 T2
                  go_wp2_with fail
                  refine U1.out.mono ?_
                  rintro e w4 ⟨rfl, rfl⟩
                  go_wp2_with fail
                  refine U2.out.mono ?_
                  rintro e w4 ⟨rfl, rfl⟩
                  clear U1 U2
                  go_wp2_with fail
                  refine (now_ok p a0 _ n _ H2.out).mono ?_
                  rintro e w4 ⟨rfl, rfl⟩
                  go_wp2_with fail
                  refine (go_yes p a0 n t _ H2.out c1' c2' F.out hn0 (by omega)).mono ?_
                  rintro e w4 ⟨rfl, hc, hg⟩
                  have H3 := Lib.hid hc
                  have G3 := Lib.hid (Blk.grown G2.out hg (fun e => by injection e with e; omega))
                  have B3 := Lib.hid (below_turned B2.out B2.out.size hg hp)
                  obtain ⟨y', ey, hy3, _⟩ := row_below S.out B3.out (show k < len2 by omega)
                  injection ey with ey
                  subst ey
                  rw [V.out] at hy3
                  clear hc hg H2 G2 hy2
                  go_wp2_with fail
                  refine (go_yes q a0 u v _ G3.out c1' c2' G.out hu0 (by omega)).mono ?_
                  rintro e w5 ⟨rfl, hc, hg⟩
                  have G4 := Lib.hid hc
                  have H4 := Lib.hid (Blk.grown H3.out hg (fun e => by injection e with e; omega))
                  have B4 := Lib.hid (below_turned B3.out B3.out.size hg (by omega))
                  clear hc hg H3 G3 hy3
                  have N1 := now_ok p a0 _ (n + t) _ H4.out
                  have N2 := now_ok q a0 _ (u + v) _ G4.out
                  have U1 := Lib.hid N1
                  have U2 := Lib.hid N2
                  clear N1 N2
                  go_wp2_with fail
                  refine U1.out.mono ?_
                  rintro e w6 ⟨rfl, rfl⟩
                  go_wp2_with fail
                  refine U1.out.mono ?_
                  rintro e w6 ⟨rfl, rfl⟩
                  go_wp2_with fail
                  refine U2.out.mono ?_
                  rintro e w6 ⟨rfl, rfl⟩
                  go_wp2
                  go_roundw
                  case rel => exact ⟨k + 1, m + 1, n + t, u + v, by omega, by omega, by go_num, by go_num, by omega, by omega, by omega, by omega, by push_cast; omega, by push_cast; omega, H4.out, G4.out, B4.out⟩
                  case measure => simp [intOf]; omega
                · have G := Lib.hid (show fits a0 v = false by simpa using hg)
                  clear hg
                  have T1 := fits_ok p a0 _ n t _ H2.out c1' c2'
                  have T2 := fits_ok q a0 _ u v _ G2.out c1' c2'
                  rw [F.out] at T1
                  rw [G.out] at T2
                  have U1 := Lib.hid T1
                  have U2 := Lib.hid T2
                  clear T1 T2
                  go_wp2_with fail
                  refine U1.out.mono ?_
                  rintro e w4 ⟨rfl, rfl⟩
                  go_wp2_with fail
                  refine U2.out.mono ?_
                  rintro e w4 ⟨rfl, rfl⟩
                  go_wp2
                  go_roundw
                  case rel => exact ⟨k + 1, m, n, u, by omega, by omega, by go_num, rfl, by omega, by omega, by omega, by omega, hd1, hd2, H2.out, G2.out, B2.out⟩
                  case measure => simp [intOf]; omega
              · have F := Lib.hid (show fits a0 t = false by simpa using hf)
                clear hf
                have T1 := fits_ok p a0 _ n t _ H2.out c1' c2'
                rw [F.out] at T1
                have U1 := Lib.hid T1
                clear T1
                go_wp2_with fail
                refine U1.out.mono ?_
                rintro e w4 ⟨rfl, rfl⟩
                go_wp2
                go_roundw
                case rel => exact ⟨k + 1, m, n, u, by omega, by omega, by go_num, rfl, by omega, by omega, by omega, by omega, hd1, hd2, H2.out, G2.out, B2.out⟩
                case measure => simp [intOf]; omega
            · go_wp2
              go_ret
              exact ⟨rfl, B2.out⟩
end Go.Proofs.Yteeeolagnndcaaa.TickApartW
