/- A clock's time is where its counter began, and all its steps, and the counter that, going round 2^32. No condition. -/
import Derived.Test.YteeeolagnndcaaaTick
import Derived.Test.YteeeolagnndcaaaLf
namespace Go.Proofs.Yteeeolagnndcaaa.TickSumsW
open Go.RowKit Go.Proofs.Yteeeolagnndcaaa.Bk Go.Proofs.Yteeeolagnndcaaa.Tick

theorem row_cell {W : World} {a : Option Addr} {len cap : Nat} {z : List Int} {k : IntKind} (h : Lf.IsRow k W a len cap z) {i : Nat} (hi : i < len) : ∃ x, a = some x ∧ W.cell? (x.add i) = some (.int k (z.getD i 0)) ∧ (Lit.int k (z.getD i 0)).wf = true ∧ x.block < W.heap.size := by
  rcases h with ⟨_, rfl, _, _⟩ | ⟨x, rfl, hl, _, hz, hc, hw⟩
  · omega
  · have h1 := hc i (by omega)
    refine ⟨x, rfl, h1, ?_, ?_⟩
    · rw [List.getD_eq_getElem?_getD, List.getElem?_eq_getElem (by omega)]
      exact hw _ (List.getElem_mem _)
    · have := World.block_lt_of_cell? W _ h1
      rwa [show (x.add i).block = x.block by unfold Addr.add; split <;> rfl] at this

set_option linter.unusedVariables false in
theorem walk (a0 : Int) (a1 : Int) (a2 : Option Addr) (len2 cap2 : Nat) (z2 : List Int) (W : World) (w0 : (Lit.int .i64 a0).wf = true) (w1 : (Lit.int .u32 a1).wf = true) (w2 : Lf.IsRow .i64 W a2 len2 cap2 z2) (y2 : len2 * 8 ≤ 140737488351232) :
    Calls Try.prog 5 #[.int .i64 a0, .int .u32 a1, .slice a2 len2 cap2] W fun e w' => e = .returned (.bool true) ∧ Below W.heap.size W w' := by
  have hl8 : len2 ≤ 17592186044404 := by omega
  have b0 := bounds_i64 w0
  have b1 := bounds_u32 w1
  have R := Lib.hid w2
  clear w0 w1 w2 y2
  by_cases c1 : (300 : Int) < len2
  · go_enter Try.func5, Try.ntmps5
    go_wp2_with (go_at_call 6; refine (alive_ok _).mono ?_; rintro e w1 ⟨rfl, hb⟩)
    go_ret
    exact ⟨rfl, ‹_›⟩
  · by_cases c2 : a0 < 0
    · go_enter Try.func5, Try.ntmps5
      go_wp2_with (go_at_call 6; refine (alive_ok _).mono ?_; rintro e w1 ⟨rfl, hb⟩)
      go_ret
      exact ⟨rfl, ‹_›⟩
    · by_cases c3 : (10 : Int) < a0
      · go_enter Try.func5, Try.ntmps5
        go_wp2_with (go_at_call 6; refine (alive_ok _).mono ?_; rintro e w1 ⟨rfl, hb⟩)
        go_ret
        exact ⟨rfl, ‹_›⟩
      · have c2' : 0 ≤ a0 := by omega
        have c3' : a0 ≤ 10 := by omega
        clear c2 c3
        go_enter Try.func5, Try.ntmps5
        go_wp2_with fail
        refine (alive_ok _).mono ?_
        rintro e w1 ⟨rfl, hb⟩
        have B1 := Lib.hid hb
        clear hb
        go_wp2_with fail
        refine (new_ok a0 _ c2' c3').mono ?_
        rintro e w2 ⟨rfl, rfl⟩
        have hc0 : Clk (w1.alloc (.cells #[.int .i64 a0, .int .u32 0, .int .i64 0] 45)) w1.heap.size a0 0 0 := Blk.new _ _ _
        have hb0 : Below W.heap.size W (w1.alloc (.cells #[.int .i64 a0, .int .u32 0, .int .i64 0] 45)) := B1.out.alloc B1.out.size _
        have hp : W.heap.size ≤ w1.heap.size := B1.out.size
        generalize w1.alloc (.cells #[.int .i64 a0, .int .u32 0, .int .i64 0] 45) = w2 at hc0 hb0
        generalize w1.heap.size = p at hc0 hp
        have H0 := Lib.hid hc0
        have B0 := Lib.hid hb0
        clear hc0 hb0 B1
        go_wp2_with fail
        refine (boot_ok p a0 _ _ a1 _ H0.out b1.1 b1.2).mono ?_
        rintro e w3 ⟨rfl, hc, hg⟩
        have H1 : Hid (Clk w3 p a0 (a1 % 4294967296) a1) := by rw [Int.emod_eq_of_lt b1.1 (by omega)]; exact hc
        have B1 := Lib.hid (below_turned B0.out B0.out.size hg hp)
        clear hc hg H0 B0
        go_wp2
        go_loopw [9, 37] (fun x i wr => ∃ (k : Nat) (n : Int), k ≤ len2 ∧ i = .int .i64 k ∧ x = .int .i64 n ∧ 0 ≤ n ∧ n ≤ a1 + 1010 * k ∧ Clk wr p a0 (n % 4294967296) n ∧ Below W.heap.size W wr) (fun _ i _ => len2 - (intOf i).toNat)
        case atStart => exact ⟨0, a1, Nat.zero_le _, rfl, rfl, b1.1, by omega, H1.out, B1.out⟩
        case round =>
          obtain ⟨k, n, hk, rfl, rfl, hn0, hn1, hc, hb⟩ := hrel
          have H2 := Lib.hid hc
          have B2 := Lib.hid hb
          clear hc hb H1 B1
          by_cases hlt : k < len2
          · obtain ⟨x, rfl, hx, hxw, hxb⟩ := row_cell R.out hlt
            have hx2 : wr.cell? (x.add k) = some (.int .i64 (z2.getD k 0)) := by
              rw [← hx]
              exact B2.out.cell (by unfold Addr.add; split <;> exact hxb)
            have bx := bounds_i64 hxw
            generalize z2.getD k 0 = t at hx2 bx
            clear hx hxw
            by_cases hf : fits a0 t = true
            · have hft : 1000 - a0 ≤ t ∧ t ≤ 1000 + a0 := of_decide_eq_true hf
              obtain ⟨hf1, hf2⟩ := hft
              have F := Lib.hid hf
              clear hf
              go_wp2_with fail
              refine (go_yes p a0 n t _ H2.out c2' c3' F.out hn0 (by omega)).mono ?_
              rintro e w4 ⟨rfl, hc, hg⟩
              have H3 := Lib.hid hc
              have B3 := Lib.hid (below_turned B2.out B2.out.size hg hp)
              clear hc hg
              go_wp2_with (first | (go_at_call 12; refine (counter_ok _ _ _ _ _ H3.out).mono ?_; rintro e w' ⟨rfl, rfl⟩) | (go_at_call 11; refine (now_ok _ _ _ _ _ H3.out).mono ?_; rintro e w' ⟨rfl, rfl⟩))
              go_roundw
              case rel => exact ⟨k + 1, n + t, by omega, by go_num, rfl, by omega, by omega, H3.out, B3.out⟩
              case measure => simp [intOf]; omega
            · have F := Lib.hid (show fits a0 t = false by simpa using hf)
              have hft : ¬ (1000 - a0 ≤ t ∧ t ≤ 1000 + a0) := fun h => hf (decide_eq_true h)
              clear hf
              by_cases hf1 : 1000 - a0 ≤ t
              all_goals
                first
                | have hf2 : ¬ t ≤ 1000 + a0 := fun h => hft ⟨hf1, h⟩
                | skip
                clear hft
                go_wp2_with fail
                refine (go_no p a0 _ n t _ H2.out c2' c3' F.out).mono ?_
                rintro e w4 ⟨rfl, rfl⟩
                go_wp2_with (first | (go_at_call 12; refine (counter_ok _ _ _ _ _ H2.out).mono ?_; rintro e w' ⟨rfl, rfl⟩) | (go_at_call 11; refine (now_ok _ _ _ _ _ H2.out).mono ?_; rintro e w' ⟨rfl, rfl⟩))
                go_roundw
                case rel => exact ⟨k + 1, n, by omega, by go_num, rfl, by omega, by omega, H2.out, B2.out⟩
                case measure => simp [intOf]; omega
          · go_wp2
            go_ret
            exact ⟨rfl, B2.out⟩
end Go.Proofs.Yteeeolagnndcaaa.TickSumsW
