/- Proves: the law LinksEach's function answers true at every input, and changes nothing that was there; over the table that the library lays. -/
import Derived.Test.YtfmkamkbbeahgaaDoorLa
import Derived.Test.YtfmkamkbbeahgaaDoorNu
import Derived.Test.YtfmkamkbbeahgaaDoorRf
import Derived.Test.YtfmkamkbbeahgaaDoorLf
import Derived.Test.YtfmkamkbbeahgaaDoorSq
namespace Go.Proofs.YtfmkamkbbeahgaaDoor.LinksEachW
open Go.RowKit Go.Proofs.YtfmkamkbbeahgaaDoor.Sq Go.Proofs.YtfmkamkbbeahgaaDoor.Bk Go.Proofs.YtfmkamkbbeahgaaDoor.Rw Go.Proofs.YtfmkamkbbeahgaaDoor.Ow Go.Proofs.YtfmkamkbbeahgaaDoor.Kp Go.Proofs.YtfmkamkbbeahgaaDoor.Bl Go.Proofs.YtfmkamkbbeahgaaDoor.Tz Go.Proofs.YtfmkamkbbeahgaaDoor.Lk Go.Proofs.YtfmkamkbbeahgaaDoor.Nu Go.Proofs.YtfmkamkbbeahgaaDoor.Rf Go.Proofs.YtfmkamkbbeahgaaDoor.La
/-- The bits under i. -/
def lo (x i : Nat) : List Nat := (List.range' 0 i).filter fun j => x.testBit j
theorem lo_succ (x i : Nat) : lo x (i + 1) = if x.testBit i then lo x i ++ [i] else lo x i := by
  unfold lo
  rw [List.range'_concat, List.filter_append]
  cases h : x.testBit i <;> simp [h]
theorem lo_pre (x : Nat) : ∀ {i : Nat}, i ≤ 64 → lo x i <+: bl x := by
  intro i hi
  refine ⟨(List.range' i (64 - i)).filter fun j => x.testBit j, ?_⟩
  unfold lo bl
  rw [← List.filter_append]
  congr 1
  rw [show (64 : Nat) = i + (64 - i) by omega, ← List.range'_append_1, show i + (64 - i) - i = 64 - i by omega, Nat.zero_add]
theorem lo_at {x i : Nat} (hi : i < 64) (h : x.testBit i = true) : (lo x i).length < (bl x).length ∧ (bl x)[(lo x i).length]? = some i := by
  have h1 := lo_pre x (i := i + 1) (by omega)
  rw [lo_succ, if_pos h] at h1
  obtain ⟨t, ht⟩ := h1
  rw [← ht]
  simp
theorem lo_all (x : Nat) : lo x 64 = bl x := rfl
set_option maxRecDepth 100000 in
theorem walk (a0 : Int) (a1 : Int) (W : World) (w0 : (Lit.int .u64 a0).wf = true) (w1 : (Lit.int .i64 a1).wf = true) (wL : Go.Proofs.YtfmkamkbbeahgaaDoor.Tz.Tab W) :
    Calls Tryd.prog 3 #[.int .u64 a0, .int .i64 a1] W fun e w' => e = .returned (.bool true) ∧ Below W.heap.size W w' := by
  have u0 : 0 ≤ a0 ∧ a0 ≤ 18446744073709551615 := by
    have h := w0
    simp only [Lit.wf, Bool.and_eq_true, decide_eq_true_eq] at h
    exact ⟨h.1, h.2⟩
  have u1 : -9223372036854775808 ≤ a1 ∧ a1 ≤ 9223372036854775807 := by
    have h := w1
    simp only [Lit.wf, Bool.and_eq_true, decide_eq_true_eq] at h
    exact ⟨h.1, h.2⟩
  obtain ⟨x, rfl⟩ : ∃ x : Nat, a0 = x := ⟨a0.toNat, by omega⟩
  have hx : x < 2 ^ 64 := by omega
  have HX := Lib.hid hx
  have hbl := bl_length x
  have HT := Lib.hid wL
  have CA := Lib.hid (alive_ok W wL)
  clear wL w0 w1 hx
  go_enter Tryd.func3, Tryd.ntmps3
  go_wp2_with (go_at_call 9; (with_reducible refine Calls.mono CA.out ?_); rintro e w1 ⟨rfl, hb⟩)
  have HB1 := Lib.hid hb
  have HT1 := Lib.hid (HT.out.below hb HT.out.1)
  have CN := Lib.hid (numbers_ok x 64 w1 HX.out HT1.out)
  clear hb CA HT
  go_wp2_with (go_at_call 10; (with_reducible refine Calls.mono CN.out ?_); rintro e w2 ⟨⟨v, rfl, ho⟩, hb⟩)
  have HB2 := Lib.hid (HB1.out.trans (hb.mono HB1.out.size))
  have HT2 := Lib.hid (HT1.out.below hb HT1.out.1)
  rw [show Int.toNat 64 = 64 from rfl, List.take_of_length_le hbl] at ho
  obtain ⟨A, c, rfl, hlc, hR⟩ := ho.ri
  rw [show (ints (bl x)).length = (bl x).length by simp] at hlc ⊢
  have HR := Lib.hid hR
  clear hR ho hb HB1 HT1 CN
  go_wp2
  go_loopw [6, 7] (fun at_ i wr => ∃ k : Nat, k ≤ 64 ∧ i = .int .i64 k ∧ at_ = .int .i64 ((lo x k).length : Nat) ∧ wr = w2) (fun _ i _ => 64 - (intOf i).toNat)
  case atStart => exact ⟨0, Nat.zero_le _, rfl, rfl, rfl⟩
  case round =>
    obtain ⟨k, hk, rfl, rfl, rfl⟩ := hrel
    have CI := Lib.hid (in_ok x k wr)
    by_cases hlt : k < 64
    · have n1 : (k : Int) < 64 := by omega
      rw [inb_nat x k hlt] at CI
      cases hbit : x.testBit k with
      | false =>
        rw [hbit] at CI
        have HB := Lib.hid hbit
        clear hbit
        go_wp2_with (go_at_call 11; (with_reducible refine Calls.mono CI.out ?_); rintro e w3 ⟨rfl, rfl⟩)
        go_roundw
        case rel => exact ⟨k + 1, by omega, by go_num, by rw [lo_succ, HB.out]; rfl, trivial⟩
        case measure => simp [intOf]; omega
      | true =>
        rw [hbit] at CI
        have HB := Lib.hid hbit
        obtain ⟨hl1, hl2⟩ := lo_at hlt hbit
        obtain ⟨n, hn⟩ : ∃ n, (lo x k).length = n := ⟨_, rfl⟩
        rw [hn] at hl1 hl2 ⊢
        have q1 : ¬ (((bl x).length : Int) ≤ (n : Int)) := by omega
        have hil : (ints (bl x)).length = (bl x).length := by simp
        obtain ⟨ad, rfl, hadl, hcell⟩ := HR.out.at_ (j := n) (by omega)
        rw [show (ints (bl x)).getD n 0 = (k : Int) by rw [List.getD_eq_getElem?_getD, List.getElem?_map, hl2]; rfl] at hcell
        have HN := Lib.hid hn
        clear hbit hil hl2 hn
        go_wp2_with (go_at_call 11; (with_reducible refine Calls.mono CI.out ?_); rintro e w3 ⟨rfl, rfl⟩)
        go_roundw
        case rel => exact ⟨k + 1, by omega, by go_num, by rw [lo_succ, HB.out, if_pos rfl, List.length_append, HN.out]; simp, trivial⟩
        case measure => simp [intOf]; omega
    · have hk64 : k = 64 := by omega
      subst hk64
      rw [lo_all]
      clear CI
      rcases Int.lt_or_le a1 0 with hneg | hpos
      · have HTK := Lib.hid (show (ints (bl x)).take 0 = ints ((bl x).take a1.toNat) by rw [Int.toNat_of_nonpos (by omega)]; rfl)
        go_wp2
        have hrl := (HR.out.take 0)
        rw [HTK.out] at hrl
        have hll : ((bl x).take (a1).toNat).length = 0 := by
          have := congrArg List.length HTK.out
          simp only [List.length_take, ints, List.length_map] at this ⊢
          omega
        have CM := Lib.hid (numbers_ok x a1 wr.drew HX.out HT2.out)
        have HRL := Lib.hid hrl
        have HLL := Lib.hid hll
        clear hrl hll
        refine wp_region_seq [(0, true), (1, true), (3, true), (4, true), (5, true), (2, false), (6, false), (7, true)] (fun w' => Below wr.heap.size wr w') (by kernel_rfl) (by kernel_rfl) ((Below.refl _ wr).drew) (fun hHeld1 => ?_)
        simp only [List.map_cons, List.map_nil, List.getElem?_toArray, List.getElem?_cons_zero, List.getElem?_cons_succ]
        repeat (first | (refine seq_skip (by rfl) ?_; try simp only [Act.put, List.setIfInBounds_toArray, List.set_cons_zero, List.set_cons_succ]) | (refine seq_not (by rfl) (by assumption) ?_; try simp only [Act.put, List.setIfInBounds_toArray, List.set_cons_zero, List.set_cons_succ]) | (refine seq_take (v := ?_) (by rfl) ?_ ?_; rotate_left; (focus ((intro w hSw; (try dsimp only at hSw); go_simp; (try with_reducible rfl)); done)); try simp only [Act.put, List.setIfInBounds_toArray, List.set_cons_zero, List.set_cons_succ]))
        refine seq_do (fun K hK => ?_)
        go_simp
        go_at_call 10
        (with_reducible refine Calls.mono CM.out ?_)
        rintro e w3 ⟨⟨v, rfl, ho⟩, hb⟩
        dsimp only
        have hbw : Below wr.heap.size wr w3 := ((Below.refl _ wr).drew).trans hb
        refine hK.out _ _ hbw (fun hHeld2 => ?_)
        clear hK K
        obtain ⟨B, d, rfl, _, hR2⟩ := ho.ri
        rw [show (ints ((bl x).take (a1).toNat)).length = 0 by rw [List.length_map, HLL.out]] at *
        have CS := Lib.hid (same_eq B A d c (ints ((bl x).take (a1).toNat)) w3 hR2 (HRL.out.below hbw) (by rw [List.length_map, HLL.out]; omega))
        rw [show (ints ((bl x).take (a1).toNat)).length = 0 by rw [List.length_map, HLL.out]] at CS
        have HBW := Lib.hid (HB2.out.trans (hbw.mono HB2.out.size))
        have HBS := Lib.hid hbw
        clear hHeld1 hHeld2 hbw hb ho hR2 CM
        repeat (first | (refine seq_skip (by rfl) ?_; try simp only [Act.put, List.setIfInBounds_toArray, List.set_cons_zero, List.set_cons_succ]) | (refine seq_not (by rfl) (by assumption) ?_; try simp only [Act.put, List.setIfInBounds_toArray, List.set_cons_zero, List.set_cons_succ]) | (refine seq_take (v := ?_) (by rfl) ?_ ?_; rotate_left; (focus ((intro w hSw; (try dsimp only at hSw); go_simp; (try with_reducible rfl)); done)); try simp only [Act.put, List.setIfInBounds_toArray, List.set_cons_zero, List.set_cons_succ]))
        refine seq_do (fun K hK => ?_)
        go_simp
        go_at_call 12
        (with_reducible refine Calls.mono CS.out ?_)
        rintro e w4 ⟨rfl, hb⟩
        dsimp only
        refine hK.out _ _ (HBS.out.trans (hb.mono HBS.out.size)) (fun hHeld3 => ?_)
        clear hK K hHeld3
        repeat (first | (refine seq_skip (by rfl) ?_; try simp only [Act.put, List.setIfInBounds_toArray, List.set_cons_zero, List.set_cons_succ]) | (refine seq_not (by rfl) (by assumption) ?_; try simp only [Act.put, List.setIfInBounds_toArray, List.set_cons_zero, List.set_cons_succ]) | (refine seq_take (v := ?_) (by rfl) ?_ ?_; rotate_left; (focus ((intro w hSw; (try dsimp only at hSw); go_simp; (try with_reducible rfl)); done)); try simp only [Act.put, List.setIfInBounds_toArray, List.set_cons_zero, List.set_cons_succ]))
        refine seq_done ?_
        have HBZ := Lib.hid (HBW.out.trans (hb.mono HBW.out.size))
        clear hb
        go_wp2
        go_ret
        exact ⟨rfl, HBZ.out⟩
      · obtain ⟨j, rfl⟩ : ∃ j : Nat, a1 = j := ⟨a1.toNat, by omega⟩
        rcases Nat.lt_or_ge j ((bl x).length + 1) with hj | hj
        · have HTK := Lib.hid (show (ints (bl x)).take j = ints ((bl x).take ((j : Nat) : Int).toNat) by rw [Int.toNat_natCast, ints, ints, List.map_take])
          have hjc : j ≤ c := by omega
          go_wp2
          have hrl := (HR.out.take j)
          rw [HTK.out] at hrl
          have hll : ((bl x).take ((j : Int)).toNat).length = j := by
            have := congrArg List.length HTK.out
            simp only [List.length_take, ints, List.length_map] at this ⊢
            omega
          have CM := Lib.hid (numbers_ok x (j : Int) wr.drew HX.out HT2.out)
          have HRL := Lib.hid hrl
          have HLL := Lib.hid hll
          clear hrl hll
          refine wp_region_seq [(0, true), (1, true), (3, true), (4, true), (5, true), (2, false), (6, false), (7, true)] (fun w' => Below wr.heap.size wr w') (by kernel_rfl) (by kernel_rfl) ((Below.refl _ wr).drew) (fun hHeld1 => ?_)
          simp only [List.map_cons, List.map_nil, List.getElem?_toArray, List.getElem?_cons_zero, List.getElem?_cons_succ]
          repeat (first | (refine seq_skip (by rfl) ?_; try simp only [Act.put, List.setIfInBounds_toArray, List.set_cons_zero, List.set_cons_succ]) | (refine seq_not (by rfl) (by assumption) ?_; try simp only [Act.put, List.setIfInBounds_toArray, List.set_cons_zero, List.set_cons_succ]) | (refine seq_take (v := ?_) (by rfl) ?_ ?_; rotate_left; (focus ((intro w hSw; (try dsimp only at hSw); go_simp; (try with_reducible rfl)); done)); try simp only [Act.put, List.setIfInBounds_toArray, List.set_cons_zero, List.set_cons_succ]))
          refine seq_do (fun K hK => ?_)
          go_simp
          go_at_call 10
          (with_reducible refine Calls.mono CM.out ?_)
          rintro e w3 ⟨⟨v, rfl, ho⟩, hb⟩
          dsimp only
          have hbw : Below wr.heap.size wr w3 := ((Below.refl _ wr).drew).trans hb
          refine hK.out _ _ hbw (fun hHeld2 => ?_)
          clear hK K
          obtain ⟨B, d, rfl, _, hR2⟩ := ho.ri
          rw [show (ints ((bl x).take ((j : Int)).toNat)).length = j by rw [List.length_map, HLL.out]] at *
          have CS := Lib.hid (same_eq B A d c (ints ((bl x).take ((j : Int)).toNat)) w3 hR2 (HRL.out.below hbw) (by rw [List.length_map, HLL.out]; omega))
          rw [show (ints ((bl x).take ((j : Int)).toNat)).length = j by rw [List.length_map, HLL.out]] at CS
          have HBW := Lib.hid (HB2.out.trans (hbw.mono HB2.out.size))
          have HBS := Lib.hid hbw
          clear hHeld1 hHeld2 hbw hb ho hR2 CM
          repeat (first | (refine seq_skip (by rfl) ?_; try simp only [Act.put, List.setIfInBounds_toArray, List.set_cons_zero, List.set_cons_succ]) | (refine seq_not (by rfl) (by assumption) ?_; try simp only [Act.put, List.setIfInBounds_toArray, List.set_cons_zero, List.set_cons_succ]) | (refine seq_take (v := ?_) (by rfl) ?_ ?_; rotate_left; (focus ((intro w hSw; (try dsimp only at hSw); go_simp; (try with_reducible rfl)); done)); try simp only [Act.put, List.setIfInBounds_toArray, List.set_cons_zero, List.set_cons_succ]))
          refine seq_do (fun K hK => ?_)
          go_simp
          go_at_call 12
          (with_reducible refine Calls.mono CS.out ?_)
          rintro e w4 ⟨rfl, hb⟩
          dsimp only
          refine hK.out _ _ (HBS.out.trans (hb.mono HBS.out.size)) (fun hHeld3 => ?_)
          clear hK K hHeld3
          repeat (first | (refine seq_skip (by rfl) ?_; try simp only [Act.put, List.setIfInBounds_toArray, List.set_cons_zero, List.set_cons_succ]) | (refine seq_not (by rfl) (by assumption) ?_; try simp only [Act.put, List.setIfInBounds_toArray, List.set_cons_zero, List.set_cons_succ]) | (refine seq_take (v := ?_) (by rfl) ?_ ?_; rotate_left; (focus ((intro w hSw; (try dsimp only at hSw); go_simp; (try with_reducible rfl)); done)); try simp only [Act.put, List.setIfInBounds_toArray, List.set_cons_zero, List.set_cons_succ]))
          refine seq_done ?_
          have HBZ := Lib.hid (HBW.out.trans (hb.mono HBW.out.size))
          clear hb
          go_wp2
          go_ret
          exact ⟨rfl, HBZ.out⟩
        · have HTK := Lib.hid (show (ints (bl x)).take (bl x).length = ints ((bl x).take ((j : Nat) : Int).toNat) by rw [Int.toNat_natCast, List.take_of_length_le (l := bl x) (by omega), List.take_of_length_le (by simp)])
          go_wp2
          have hrl := (HR.out.take (bl x).length)
          rw [HTK.out] at hrl
          have hll : ((bl x).take ((j : Int)).toNat).length = (bl x).length := by
            have := congrArg List.length HTK.out
            simp only [List.length_take, ints, List.length_map] at this ⊢
            omega
          have CM := Lib.hid (numbers_ok x (j : Int) wr.drew HX.out HT2.out)
          have HRL := Lib.hid hrl
          have HLL := Lib.hid hll
          clear hrl hll
          refine wp_region_seq [(0, true), (1, true), (3, true), (4, true), (5, true), (2, false), (6, false), (7, true)] (fun w' => Below wr.heap.size wr w') (by kernel_rfl) (by kernel_rfl) ((Below.refl _ wr).drew) (fun hHeld1 => ?_)
          simp only [List.map_cons, List.map_nil, List.getElem?_toArray, List.getElem?_cons_zero, List.getElem?_cons_succ]
          repeat (first | (refine seq_skip (by rfl) ?_; try simp only [Act.put, List.setIfInBounds_toArray, List.set_cons_zero, List.set_cons_succ]) | (refine seq_not (by rfl) (by assumption) ?_; try simp only [Act.put, List.setIfInBounds_toArray, List.set_cons_zero, List.set_cons_succ]) | (refine seq_take (v := ?_) (by rfl) ?_ ?_; rotate_left; (focus ((intro w hSw; (try dsimp only at hSw); go_simp; (try with_reducible rfl)); done)); try simp only [Act.put, List.setIfInBounds_toArray, List.set_cons_zero, List.set_cons_succ]))
          refine seq_do (fun K hK => ?_)
          go_simp
          go_at_call 10
          (with_reducible refine Calls.mono CM.out ?_)
          rintro e w3 ⟨⟨v, rfl, ho⟩, hb⟩
          dsimp only
          have hbw : Below wr.heap.size wr w3 := ((Below.refl _ wr).drew).trans hb
          refine hK.out _ _ hbw (fun hHeld2 => ?_)
          clear hK K
          obtain ⟨B, d, rfl, _, hR2⟩ := ho.ri
          rw [show (ints ((bl x).take ((j : Int)).toNat)).length = (bl x).length by rw [List.length_map, HLL.out]] at *
          have CS := Lib.hid (same_eq B A d c (ints ((bl x).take ((j : Int)).toNat)) w3 hR2 (HRL.out.below hbw) (by rw [List.length_map, HLL.out]; omega))
          rw [show (ints ((bl x).take ((j : Int)).toNat)).length = (bl x).length by rw [List.length_map, HLL.out]] at CS
          have HBW := Lib.hid (HB2.out.trans (hbw.mono HB2.out.size))
          have HBS := Lib.hid hbw
          clear hHeld1 hHeld2 hbw hb ho hR2 CM
          repeat (first | (refine seq_skip (by rfl) ?_; try simp only [Act.put, List.setIfInBounds_toArray, List.set_cons_zero, List.set_cons_succ]) | (refine seq_not (by rfl) (by assumption) ?_; try simp only [Act.put, List.setIfInBounds_toArray, List.set_cons_zero, List.set_cons_succ]) | (refine seq_take (v := ?_) (by rfl) ?_ ?_; rotate_left; (focus ((intro w hSw; (try dsimp only at hSw); go_simp; (try with_reducible rfl)); done)); try simp only [Act.put, List.setIfInBounds_toArray, List.set_cons_zero, List.set_cons_succ]))
          refine seq_do (fun K hK => ?_)
          go_simp
          go_at_call 12
          (with_reducible refine Calls.mono CS.out ?_)
          rintro e w4 ⟨rfl, hb⟩
          dsimp only
          refine hK.out _ _ (HBS.out.trans (hb.mono HBS.out.size)) (fun hHeld3 => ?_)
          clear hK K hHeld3
          repeat (first | (refine seq_skip (by rfl) ?_; try simp only [Act.put, List.setIfInBounds_toArray, List.set_cons_zero, List.set_cons_succ]) | (refine seq_not (by rfl) (by assumption) ?_; try simp only [Act.put, List.setIfInBounds_toArray, List.set_cons_zero, List.set_cons_succ]) | (refine seq_take (v := ?_) (by rfl) ?_ ?_; rotate_left; (focus ((intro w hSw; (try dsimp only at hSw); go_simp; (try with_reducible rfl)); done)); try simp only [Act.put, List.setIfInBounds_toArray, List.set_cons_zero, List.set_cons_succ]))
          refine seq_done ?_
          have HBZ := Lib.hid (HBW.out.trans (hb.mono HBW.out.size))
          clear hb
          go_wp2
          go_ret
          exact ⟨rfl, HBZ.out⟩
end Go.Proofs.YtfmkamkbbeahgaaDoor.LinksEachW
