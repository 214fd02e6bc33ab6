/- The reference's Ear answers as the node's own. -/
import Derived.Test.YtofflnklbdhaiaaDoorEp
import Derived.Test.YtofflnklbdhaiaaDoorRm
namespace Go.Proofs.YtofflnklbdhaiaaDoor.Rr
open Go.RowKit Go.Proofs.YtofflnklbdhaiaaDoor.Bk Go.Proofs.YtofflnklbdhaiaaDoor.Rw Go.Proofs.YtofflnklbdhaiaaDoor.Ow Go.Proofs.YtofflnklbdhaiaaDoor.Kp Go.Proofs.YtofflnklbdhaiaaDoor.Bl Go.Proofs.YtofflnklbdhaiaaDoor.Lk Go.Proofs.YtofflnklbdhaiaaDoor.Sc Go.Proofs.YtofflnklbdhaiaaDoor.Rf Go.Proofs.YtofflnklbdhaiaaDoor.Rm Go.Proofs.YtofflnklbdhaiaaDoor.Er Go.Proofs.YtofflnklbdhaiaaDoor.Ep
/-- The bits under i. -/
def lo (x i : Nat) : List Nat := (List.range' 0 i).filter fun j => x.testBit j
theorem lo_succ (x i : Nat) : lo x (i + 1) = if x.testBit i then lo x i ++ [i] else lo x i := by
  unfold lo
  rw [List.range'_concat, List.filter_append]
  cases h : x.testBit i <;> simp [h]
theorem lo_all {x n : Nat} (hn : n ≤ 64) (hx : ∀ i, x.testBit i = true → i < n) : lo x n = bl x := by
  unfold lo bl
  rw [show (64 : Nat) = n + (64 - n) by omega, ← List.range'_append_1, List.filter_append]
  have h1 : (List.filter (fun i => x.testBit i) (List.range' (0 + n) (64 - n))) = [] := by
    rw [List.filter_eq_nil_iff]
    intro j hj hb
    rw [List.mem_range'_1] at hj
    have := hx j hb
    omega
  rw [h1, List.append_nil]
/-- The last one, or -1. -/
def lst (l : List Nat) : Int := match l.getLast? with | none => -1 | some j => (j : Int)
theorem lst_snoc (l : List Nat) (j : Nat) : lst (l ++ [j]) = j := by simp [lst]
theorem bl_nil {x : Nat} (hx : x < 2 ^ 64) : bl x = [] ↔ x = 0 := by
  constructor
  · intro h
    refine Classical.byContradiction fun h0 => ?_
    rw [(bl_next h0 hx).1] at h
    cases h
  · intro h
    rw [h, bl_zero]
/-- How many, and the last. -/
theorem count {x : Nat} (h0 : x ≠ 0) (hx : x < 2 ^ 64) : (x &&& (x - 1) = 0 → (bl x).length = 1 ∧ lst (bl x) = frm x) ∧ (¬ x &&& (x - 1) = 0 → 1 < (bl x).length ∧ frm x = -1) := by
  obtain ⟨h1, _, h3⟩ := bl_next h0 hx
  refine ⟨fun h => ?_, fun h => ?_⟩
  · rw [h1, h, bl_zero]
    refine ⟨rfl, ?_⟩
    unfold frm
    rw [if_pos h]
    rfl
  · refine ⟨?_, if_neg h⟩
    rw [h1]
    have : bl (x &&& (x - 1)) ≠ [] := fun hn => h ((bl_nil (by omega)).1 hn)
    have := List.length_pos_iff.2 this
    simp
    omega
set_option maxRecDepth 100000 in
set_option maxHeartbeats 8000000 in
theorem rear_ok (m : Nat) (a : List Nat) (i send awake : Nat) (lost : List Int) (A : Option Addr) (c : Nat) (w : World) (h : Re w m a) (hsy : Sy a) (hal : a.length ≤ 64) (hi : i < a.length) (hl : Ri .u64 w A lost) (hlo : ∀ x ∈ lost, 0 ≤ x ∧ x < 2 ^ 64) :
    Calls Tryd.prog 10 #[.pointer (some ⟨m, 0, none⟩), .int .i64 i, .int .u64 send, .int .u64 awake, .slice A lost.length c] w fun e w' => e = .returned (.tuple #[.int .i64 (earf send awake lost i (a.getD i 0 &&& send)).1, .int .i64 (earf send awake lost i (a.getD i 0 &&& send)).2]) ∧ w = w' := by
  have HR := Lib.hid h
  have HL := Lib.hid hl
  have c0 := h.len
  have hx64 : a.getD i 0 < 2 ^ 64 := by
    rw [List.getD_eq_getElem?_getD, List.getElem?_eq_getElem hi]
    exact hsy.small _ (List.getElem_mem hi)
  have hbits : ∀ k, (a.getD i 0 &&& send).testBit k = (B a i k && send.testBit k) := fun k => by rw [Nat.testBit_and]
  have hlt : ∀ k, (a.getD i 0 &&& send).testBit k = true → k < a.length := fun k hk => by
    rw [hbits, Bool.and_eq_true] at hk
    exact (hsy.lt hk.1).2
  have hnr : a.getD i 0 &&& send < 2 ^ 64 := Nat.lt_of_le_of_lt Nat.and_le_left hx64
  generalize a.getD i 0 &&& send = near at hbits hlt hnr
  have HBT := Lib.hid hbits
  have HLA := Lib.hid (lo_all hal hlt)
  obtain ⟨N, hN⟩ : ∃ N, a.length = N := ⟨_, rfl⟩
  rw [hN] at c0 HLA hi hal
  have iN : (i : Int) < 64 := by omega
  clear h hl hx64 hbits hlt
  go_enter Tryd.func10, Tryd.ntmps10
  go_wp2
  go_loopw [12, 13, 14] (fun f n k wr => ∃ x : Nat, x ≤ N ∧ k = .int .i64 x ∧ n = .int .i64 ((lo near x).length : Nat) ∧ f = .int .i64 (lst (lo near x)) ∧ (lo near x).length ≤ x ∧ wr = w) (fun _ _ k _ => N - (intOf k).toNat)
  case atStart => exact ⟨0, Nat.zero_le _, rfl, rfl, rfl, Nat.le_refl _, rfl⟩
  case round =>
    obtain ⟨x, hx, rfl, rfl, rfl, hle, rfl⟩ := hrel
    by_cases hxn : x < N
    · have xn : (x : Int) < (N : Int) := by omega
      have x64 : (x : Int) < 64 := by omega
      have s0 := HR.out.at_ (i := i) (k := x) (by omega) (by omega)
      have CI := Lib.hid (in_ok send x wr)
      rw [inb_nat send x (by omega)] at CI
      have hls := lo_succ near x
      rw [HBT.out x] at hls
      cases hb : B a i x with
      | false =>
        rw [hb] at s0 hls
        have HLS := Lib.hid (show lo near (x + 1) = lo near x from hls)
        clear hb hls
        go_wp2
        go_roundw
        case rel => exact ⟨x + 1, by omega, by go_num, by rw [HLS.out], by rw [HLS.out], by rw [HLS.out]; omega, trivial⟩
        case measure => simp [intOf]; omega
      | true =>
        rw [hb] at s0 hls
        cases hs : send.testBit x with
        | false =>
          rw [hs] at CI hls
          have HLS := Lib.hid (show lo near (x + 1) = lo near x from hls)
          clear hb hls hs
          go_wp2_with (go_at_call 11; (with_reducible refine Calls.mono CI.out ?_); rintro e w8 ⟨rfl, rfl⟩)
          go_roundw
          case rel => exact ⟨x + 1, by omega, by go_num, by rw [HLS.out], by rw [HLS.out], by rw [HLS.out]; omega, trivial⟩
          case measure => simp [intOf]; omega
        | true =>
          rw [hs] at CI hls
          have HLS := Lib.hid (show lo near (x + 1) = lo near x ++ [x] from hls)
          clear hb hls hs
          generalize hq : (lo near x).length = q at hle ⊢
          go_wp2_with (go_at_call 11; (with_reducible refine Calls.mono CI.out ?_); rintro e w8 ⟨rfl, rfl⟩)
          go_roundw
          case rel => exact ⟨x + 1, by omega, by go_num, by rw [HLS.out, List.length_append, hq]; simp, by rw [HLS.out, lst_snoc], by rw [HLS.out, List.length_append, hq]; simp; omega, trivial⟩
          case measure => simp [intOf]; omega
    · have hxe : x = N := by omega
      subst hxe
      have hla := HLA.out
      rw [hla]
      clear hle hla HLA HBT
      by_cases h0 : near = 0
      · subst h0
        rw [bl_zero]
        go_wp2
        go_ret2
        exact ⟨rfl, rfl⟩
      have hc := count h0 hnr
      have hpos : (bl near).length ≠ 0 := fun hn => h0 ((bl_nil hnr).1 (List.eq_nil_of_length_eq_zero hn))
      have hblt := bl_length near
      have CS := Lib.hid (in_ok send i wr)
      rw [inb_nat send i (by omega)] at CS
      have CW := Lib.hid (in_ok awake i wr)
      rw [inb_nat awake i (by omega)] at CW
      have hE : earf send awake lost i near = if send.testBit i then (frm near, 2) else if awake.testBit i then
        (if frm near < 0 then (frm near, 4) else if i < lost.length ∧ (lost.getD i 0).toNat.testBit (frm near).toNat = true then (frm near, 5) else (frm near, 1)) else (frm near, 3) := by unfold earf; rw [if_neg h0]
      by_cases hone : near &&& (near - 1) = 0
      · obtain ⟨n1, n2⟩ := hc.1 hone
        obtain ⟨k, hk, hkb⟩ := frm_bit h0 hnr (by unfold frm; rw [if_pos hone]; omega)
        have hk64 : k < 64 := by
          have : k ∈ bl near := by
            refine bl_mem.2 ⟨?_, hkb⟩
            rcases Nat.lt_or_ge k 64 with h | h
            · exact h
            · rw [Nat.testBit_lt_two_pow (Nat.lt_of_lt_of_le hnr (Nat.pow_le_pow_right (by decide) h))] at hkb
              cases hkb
          exact (bl_mem.1 this).1
        rw [n1, n2, hk]
        rw [hk] at hE
        have k1 : ¬ ((k : Int) < 0) := by omega
        rw [if_neg k1] at hE
        clear hc n1 n2 hk hkb hpos hblt
        cases hsb : send.testBit i with
        | true =>
          rw [hsb] at CS hE
          have HE := Lib.hid hE
          clear hE hsb hone
          have CX := CW
          go_wp2_with (first
            | (go_at_call 11; (with_reducible refine Calls.mono CS.out ?_); rintro e w1 ⟨rfl, rfl⟩)
            | (go_at_call 11; (with_reducible refine Calls.mono CW.out ?_); rintro e w1 ⟨rfl, rfl⟩)
            | (go_at_call 11; (with_reducible refine Calls.mono CX.out ?_); rintro e w1 ⟨rfl, rfl⟩))
          go_ret2
          exact ⟨by rw [HE.out]; rfl, rfl⟩
        | false =>
          rw [hsb] at CS hE
          cases hab : awake.testBit i with
          | false =>
            rw [hab] at CW hE
            have HE := Lib.hid hE
            clear hE hsb hab hone
            have CX := CW
            go_wp2_with (first
              | (go_at_call 11; (with_reducible refine Calls.mono CS.out ?_); rintro e w1 ⟨rfl, rfl⟩)
              | (go_at_call 11; (with_reducible refine Calls.mono CW.out ?_); rintro e w1 ⟨rfl, rfl⟩)
              | (go_at_call 11; (with_reducible refine Calls.mono CX.out ?_); rintro e w1 ⟨rfl, rfl⟩))
            go_ret2
            exact ⟨by rw [HE.out]; rfl, rfl⟩
          | true =>
            rw [hab] at CW hE
            by_cases hil : i < lost.length
            · obtain ⟨ad, rfl, hadl, hcell⟩ := HL.out.at_ hil
              have hx := hlo _ (show lost.getD i 0 ∈ lost by rw [List.getD_eq_getElem?_getD, List.getElem?_eq_getElem hil]; exact List.getElem_mem hil)
              obtain ⟨x, hxx⟩ : ∃ x : Nat, lost.getD i 0 = x := ⟨(lost.getD i 0).toNat, by omega⟩
              rw [hxx] at hcell hE hx
              rw [Int.toNat_natCast, Int.toNat_natCast] at hE
              have CX := Lib.hid (in_ok x k wr)
              rw [inb_nat x k hk64] at CX
              have m1 : (i : Int) < (lost.length : Int) := by omega
              cases hxb : x.testBit k with
              | true =>
                rw [hxb] at CX
                rw [if_neg (by decide), if_pos rfl, if_pos ⟨hil, hxb⟩] at hE
                have HE := Lib.hid hE
                clear hE hsb hab hone hxb hx hxx
                go_wp2_with (first
                  | (go_at_call 11; (with_reducible refine Calls.mono CS.out ?_); rintro e w1 ⟨rfl, rfl⟩)
                  | (go_at_call 11; (with_reducible refine Calls.mono CW.out ?_); rintro e w1 ⟨rfl, rfl⟩)
                  | (go_at_call 11; (with_reducible refine Calls.mono CX.out ?_); rintro e w1 ⟨rfl, rfl⟩))
                go_ret2
                exact ⟨by rw [HE.out]; rfl, rfl⟩
              | false =>
                rw [hxb] at CX
                rw [if_neg (by decide), if_pos rfl, if_neg (by rw [hxb]; rintro ⟨_, h⟩; cases h)] at hE
                have HE := Lib.hid hE
                clear hE hsb hab hone hxb hx hxx
                go_wp2_with (first
                  | (go_at_call 11; (with_reducible refine Calls.mono CS.out ?_); rintro e w1 ⟨rfl, rfl⟩)
                  | (go_at_call 11; (with_reducible refine Calls.mono CW.out ?_); rintro e w1 ⟨rfl, rfl⟩)
                  | (go_at_call 11; (with_reducible refine Calls.mono CX.out ?_); rintro e w1 ⟨rfl, rfl⟩))
                go_ret2
                exact ⟨by rw [HE.out]; rfl, rfl⟩
            · have m1 : ¬ (i : Int) < (lost.length : Int) := by omega
              have CX := CW
              rw [if_neg (by decide), if_pos rfl, if_neg (by rintro ⟨h, _⟩; exact hil h)] at hE
              have HE := Lib.hid hE
              clear hE hsb hab hone
              go_wp2_with (first
                | (go_at_call 11; (with_reducible refine Calls.mono CS.out ?_); rintro e w1 ⟨rfl, rfl⟩)
                | (go_at_call 11; (with_reducible refine Calls.mono CW.out ?_); rintro e w1 ⟨rfl, rfl⟩)
                | (go_at_call 11; (with_reducible refine Calls.mono CX.out ?_); rintro e w1 ⟨rfl, rfl⟩))
              go_ret2
              exact ⟨by rw [HE.out]; rfl, rfl⟩
      · obtain ⟨n1, n2⟩ := hc.2 hone
        rw [n2, if_pos (show (-1 : Int) < 0 by decide)] at hE
        generalize (bl near).length = q at n1 hpos hblt ⊢
        generalize lst (bl near) = lv
        have n3 : (1 : Int) < (q : Int) := by omega
        have n4 : ((q : Int) == 0) = false := by simpa using hpos
        have CX := CW
        clear hc
        cases hsb : send.testBit i with
        | true =>
          rw [hsb] at CS hE
          have HE := Lib.hid hE
          clear hE hsb hone
          go_wp2_with (first
            | (go_at_call 11; (with_reducible refine Calls.mono CS.out ?_); rintro e w1 ⟨rfl, rfl⟩)
            | (go_at_call 11; (with_reducible refine Calls.mono CW.out ?_); rintro e w1 ⟨rfl, rfl⟩)
            | (go_at_call 11; (with_reducible refine Calls.mono CX.out ?_); rintro e w1 ⟨rfl, rfl⟩))
          go_ret2
          exact ⟨by rw [HE.out]; rfl, rfl⟩
        | false =>
          rw [hsb] at CS hE
          cases hab : awake.testBit i with
          | false =>
            rw [hab] at CW hE
            have HE := Lib.hid hE
            clear hE hsb hab hone
            go_wp2_with (first
              | (go_at_call 11; (with_reducible refine Calls.mono CS.out ?_); rintro e w1 ⟨rfl, rfl⟩)
              | (go_at_call 11; (with_reducible refine Calls.mono CW.out ?_); rintro e w1 ⟨rfl, rfl⟩)
              | (go_at_call 11; (with_reducible refine Calls.mono CX.out ?_); rintro e w1 ⟨rfl, rfl⟩))
            go_ret2
            exact ⟨by rw [HE.out]; rfl, rfl⟩
          | true =>
            rw [hab] at CW hE
            have HE := Lib.hid hE
            clear hE hsb hab hone
            go_wp2_with (first
              | (go_at_call 11; (with_reducible refine Calls.mono CS.out ?_); rintro e w1 ⟨rfl, rfl⟩)
              | (go_at_call 11; (with_reducible refine Calls.mono CW.out ?_); rintro e w1 ⟨rfl, rfl⟩)
              | (go_at_call 11; (with_reducible refine Calls.mono CX.out ?_); rintro e w1 ⟨rfl, rfl⟩))
            go_ret2
            exact ⟨by rw [HE.out]; rfl, rfl⟩
end Go.Proofs.YtofflnklbdhaiaaDoor.Rr
