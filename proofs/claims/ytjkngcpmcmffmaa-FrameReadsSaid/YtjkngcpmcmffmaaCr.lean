/- crc's functions, walked: step, Goes, Sum, Seal, Open. -/
import Derived.Test.YtjkngcpmcmffmaaCrc
import Derived.Test.YtjkngcpmcmffmaaSq
import Derived.Test.YtjkngcpmcmffmaaKp
import Derived.Test.YtjkngcpmcmffmaaIn
import Derived.WalkSpells
import Derived.Lib.Hide
import Derived.Deep.LoopGhost
import Derived.Deep.QuietTactic
import Derived.BigQuiet
import Derived.WalkLawsBesides
namespace Go.Proofs.Ytjkngcpmcmffmaa.Cr
open Go.RowKit Go.Proofs.Ytjkngcpmcmffmaa.Bk Go.Proofs.Ytjkngcpmcmffmaa.Kp Go.Proofs.Ytjkngcpmcmffmaa.Rw Go.Proofs.Ytjkngcpmcmffmaa.Ow Go.Proofs.Ytjkngcpmcmffmaa.Crc Go.Proofs.Ytjkngcpmcmffmaa.CrcM
theorem crc_snoc (v : BitVec 16) (k : Nat) : crc v (List.replicate (k + 1) false) = T (crc v (List.replicate k false)) := by
  rw [List.replicate_succ', crc_append, crc_cons, bs_false]
  rfl
theorem step_ok (s b : Int) (hs : 0 ≤ s ∧ s ≤ 65535) (hb : 0 ≤ b ∧ b ≤ 255) (w : World) : Calls Try.prog 39 #[.int .u16 s, .int .u8 b] w fun e w' => e = .returned (.int .u16 (goes s [b])) ∧ w = w' := by
  obtain ⟨n, rfl⟩ := Int.eq_ofNat_of_zero_le hs.1
  obtain ⟨m, rfl⟩ := Int.eq_ofNat_of_zero_le hb.1
  have hg : goes (n : Int) [(m : Int)] = ((crc (BitVec.ofNat 16 n ^^^ BitVec.ofNat 16 (m * 256)) (List.replicate 8 false)).toNat : Int) := by
    rw [byte_bits _ m (by omega)]
    unfold goes allBits
    simp
  have hv : ((BitVec.ofNat 16 n ^^^ BitVec.ofNat 16 (m * 256)).toNat : Int) = ((n ^^^ (m * 256) : Nat) : Int) := by
    rw [BitVec.toNat_xor, BitVec.toNat_ofNat, BitVec.toNat_ofNat, Nat.mod_eq_of_lt (show n < 2 ^ 16 by omega), Nat.mod_eq_of_lt (show m * 256 < 2 ^ 16 by omega)]
  have HG := Lib.hid hg
  have hx := xor16 n (m * 256) (by omega) (by omega)
  rw [← hv] at hx
  generalize BitVec.ofNat 16 n ^^^ BitVec.ofNat 16 (m * 256) = v at HG hx
  clear hg hv
  go_enter Try.func39, Try.ntmps39
  go_wp2
  go_loopw [0, 11] (fun s0 s11 wr => ∃ k : Nat, k ≤ 8 ∧ s11 = .int .i64 k ∧ s0 = .int .u16 ((crc v (List.replicate k false)).toNat : Int) ∧ w = wr) (fun _ s11 _ => 8 - (intOf s11).toNat)
  case atStart =>
    refine ⟨0, by omega, rfl, ?_, rfl⟩
    rw [show List.replicate 0 false = ([] : List Bool) from rfl, show crc v [] = v from rfl, ← hx]
    congr 2
  case round =>
    obtain ⟨k, hk, rfl, rfl, rfl⟩ := hrel
    by_cases hlt : k < 8
    · have n1 : (k : Int) < 8 := by omega
      have hT := T_nat (crc v (List.replicate k false))
      rw [← crc_snoc] at hT
      generalize crc v (List.replicate k false) = x at hT ⊢
      have hxl : x.toNat < 65536 := x.isLt
      have ha := and16 x.toNat 32768 hxl (by decide)
      have h2 : IntKind.u16.wrap ((x.toNat : Int) * 2) = ((x.toNat * 2 % 65536 : Nat) : Int) := by rw [a_u16]; omega
      have h3 := xor16 (x.toNat * 2 % 65536) 4129 (by omega) (by decide)
      by_cases h : x.toNat &&& 32768 = 0
      · rw [if_pos h] at hT
        have ha : bits BinOp.and IntKind.u16 (x.toNat : Int) 32768 = 0 := by rw [show (32768 : Int) = ((32768 : Nat) : Int) from rfl, ha, h]; rfl
        have HT := Lib.hid hT
        clear hT h
        go_wp2
        go_roundw
        case rel => exact ⟨k + 1, by omega, by go_num, by first | (rw [HT.out]; done) | (rw [HT.out]; rfl) | (rw [HT.out]; congr 1; omega), by first | rfl | trivial⟩
        case measure => simp [intOf]; omega
      · rw [if_neg h] at hT
        have HH := Lib.hid h
        obtain ⟨c, hc⟩ : ∃ c : Nat, x.toNat &&& 32768 = c := ⟨_, rfl⟩
        rw [hc] at ha h
        have ha : bits BinOp.and IntKind.u16 (x.toNat : Int) 32768 = (c : Int) := ha
        have hne : ((c : Int) != 0) = true := bne_iff_ne.mpr (by omega)
        have h3 : bits BinOp.xor IntKind.u16 ((x.toNat * 2 % 65536 : Nat) : Int) 4129 = ((x.toNat * 2 % 65536 ^^^ 4129 : Nat) : Int) := h3
        have HT := Lib.hid hT
        generalize (x.toNat * 2 % 65536 ^^^ 4129 : Nat) = z at h3 HT
        generalize (x.toNat * 2 % 65536 : Nat) = y at h2 h3
        clear hT hc h HH
        go_wp2
        go_roundw
        case rel => exact ⟨k + 1, by omega, by go_num, by first | (rw [HT.out]; done) | (rw [HT.out]; rfl) | (rw [HT.out]; congr 1; omega), by first | rfl | trivial⟩
        case measure => simp [intOf]; omega
    · have hk : k = 8 := by omega
      subst hk
      go_wp2
      go_ret
      exact ⟨by rw [HG.out]; rfl, rfl⟩
theorem goes_ok (s : Int) (hs : 0 ≤ s ∧ s ≤ 65535) (A : Option Addr) (c : Nat) (l : List Int) (hl : Bytes l) (w : World) (hR : Ri .u8 w A l) : Calls Try.prog 38 #[.int .u16 s, .slice A l.length c] w fun e w' => e = .returned (.int .u16 (goes s l)) ∧ w = w' := by
  have HR := Lib.hid hR
  have HL := Lib.hid hl
  have hm := hR.1
  unfold maxLen at hm
  obtain ⟨N, hN⟩ : ∃ N, l.length = N := ⟨_, rfl⟩
  rw [hN] at hm ⊢
  clear hR hl
  go_enter Try.func38, Try.ntmps38
  go_wp2
  go_loopw [0, 9] (fun s0 s9 wr => ∃ k : Nat, k ≤ N ∧ s9 = .int .i64 k ∧ s0 = .int .u16 (goes s (l.take k)) ∧ w = wr) (fun _ s9 _ => N - (intOf s9).toNat)
  case atStart =>
    refine ⟨0, Nat.zero_le _, rfl, ?_, rfl⟩
    rw [List.take_zero]
    have h0 : goes s [] = s := by
      obtain ⟨n, rfl⟩ := Int.eq_ofNat_of_zero_le hs.1
      unfold goes allBits
      rw [List.flatMap_nil, show crc (BitVec.ofNat 16 (n : Int).toNat) [] = BitVec.ofNat 16 (n : Int).toNat from rfl, Int.toNat_natCast, BitVec.toNat_ofNat, Nat.mod_eq_of_lt (by omega)]
    rw [h0]
  case round =>
    obtain ⟨k, hk, rfl, rfl, rfl⟩ := hrel
    by_cases hlt : k < N
    · have n1 : (k : Int) < (N : Int) := by omega
      obtain ⟨ad, rfl, _, hc⟩ := HR.out.at_ (show k < l.length by omega)
      have hx : l.getD k 0 ∈ l := by rw [List.getD_eq_getElem?_getD, List.getElem?_eq_getElem (by omega)]; exact List.getElem_mem _
      have hb := HL.out _ hx
      have htk : l.take (k + 1) = l.take k ++ [l.getD k 0] := by rw [List.take_add_one, List.getElem?_eq_getElem (by omega), List.getD_eq_getElem?_getD, List.getElem?_eq_getElem (by omega)]; rfl
      have HT := Lib.hid htk
      have CS := Lib.hid (step_ok (goes s (l.take k)) (l.getD k 0) (goes_bd _ _) hb w)
      rw [goes_append] at CS
      obtain ⟨x, hx2⟩ : ∃ x, l.getD k 0 = x := ⟨_, rfl⟩
      rw [hx2] at hc CS HT
      clear hx hb htk hx2
      go_wp2_with (go_at_call 39; (with_reducible refine Calls.mono CS.out ?_); rintro e w1 ⟨rfl, rfl⟩)
      go_roundw
      case rel => exact ⟨k + 1, by omega, by go_num, by rw [HT.out], by first | rfl | trivial⟩
      case measure => simp [intOf]; omega
    · have hk : k = N := by omega
      subst hk
      have HE := Lib.hid (show l.take k = l by rw [← hN, List.take_length])
      go_wp2
      go_ret
      exact ⟨by rw [HE.out]; rfl, rfl⟩
theorem sum_ok (A : Option Addr) (c : Nat) (l : List Int) (hl : Bytes l) (w : World) (hR : Ri .u8 w A l) : Calls Try.prog 35 #[.slice A l.length c] w fun e w' => e = .returned (.int .u16 (goes 65535 l)) ∧ w = w' := by
  have C := Lib.hid (goes_ok 65535 (by omega) A c l hl w hR)
  clear hR
  go_enter Try.func35, Try.ntmps35
  go_wp2_with (go_at_call 38; (with_reducible refine Calls.mono C.out ?_); rintro e w1 ⟨rfl, rfl⟩)
  go_ret
  exact ⟨rfl, rfl⟩
set_option maxHeartbeats 4000000 in
theorem seal_ok (A : Option Addr) (c : Nat) (l : List Int) (w : World) (hr : Ri .u8 w A l) (_hc : l.length ≤ c) (hb : Bytes l) (hn : l.length ≤ 100000) :
    Calls Try.prog 30 #[.slice A l.length c] w fun e w' => ∃ v, e = .returned v ∧ Oi .u8 5 w' w.heap.size v (l ++ two (goes 65535 l)) ∧ Below w.heap.size w w' := by
  have HR := Lib.hid hr
  have HB := Lib.hid hb
  clear hr hb
  go_enter Try.func30, Try.ntmps30
  go_wp2_with fail
  refine (sum_ok A c l HB.out _ HR.out).mono ?_
  rintro e w1 ⟨rfl, rfl⟩
  go_wp2_with (with_reducible refine wp_make .u8 5 _ w.heap.size (.int .u8 0) 1 rfl 22 _ _ rfl Try.underlying22 (by kernel_rfl) .i64 .i64 _ (l.length + 2) rfl rfl (by omega) ?_ ?_ ?_ ?_)
  · omega
  · unfold maxLen; omega
  · exact Nat.le_refl _
  intro w2 ho hg
  have HO := Lib.hid ho
  have HW := Lib.hid ((Below.refl w.heap.size w).grown hg (Nat.le_refl _) (fun k hk => by cases hk))
  clear ho hg
  have HR2 := Lib.hid (HR.out.below HW.out)
  go_wp2_with (at_builtin; refine wp_append .u8 5 _ w.heap.size (.int .u8 0) 1 rfl _ _ 22 rfl Try.underlying22 (by kernel_rfl) rfl _ _ _ _ _ _ rfl rfl rfl HO.out HR2.out ?_ ?_ ?_ ?_)
  · unfold maxLen; simp; omega
  · simp; omega
  · exact HW.out.size
  intro v3 w3 ho hg _
  have HW3 := Lib.hid (Below.of_owned HW.out HW.out.size hg (fun q hq => (HO.out.owner q hq).1))
  have HO3 := Lib.hid ho
  clear ho hg HO HW HR2
  have hbd := goes_bd 65535 l
  go_wp2_with (at_builtin; refine wp_append .u8 5 _ w.heap.size (.int .u8 0) 1 rfl _ _ 22 rfl Try.underlying22 (by kernel_rfl) rfl _ _ _ _ (two (goes 65535 l)) _ rfl rfl rfl (HO3.out.alloc _) (Ri.lit .u8 5 _ (two (goes 65535 l)) (by unfold maxLen two; simp) _ rfl) ?_ ?_ ?_ ?_)
  · unfold maxLen two; simp; omega
  · simp [two]; omega
  · have := HW3.out.size; simp; omega
  intro v4 w4 ho hg _
  have HW4 := Lib.hid (Below.of_owned (HW3.out.alloc HW3.out.size _) (by have := HW3.out.size; simp; omega) hg (fun q hq => (HO3.out.owner q hq).1))
  have HO4 := Lib.hid ho
  clear ho hg HO3 HW3
  go_wp2_with fail
  go_ret
  refine ⟨v4, rfl, ?_, HW4.out⟩
  exact HO4.out

theorem open_no (A : Option Addr) (c : Nat) (l : List Int) (w : World) (hr : Ri .u8 w A l) (_hc : l.length ≤ c) (hb : Bytes l) (_hn : l.length ≤ 200000) (h : l.length < 2 ∨ goes 65535 l ≠ 0) :
    Calls Try.prog 24 #[.slice A l.length c] w fun e w' => e = .returned (.tuple #[.slice none 0 0, .bool false]) ∧ w = w' := by
  have HR := Lib.hid hr
  have HB := Lib.hid hb
  clear hr hb
  by_cases h2 : l.length < 2
  · clear h
    go_enter Try.func24, Try.ntmps24
    go_wp2_with fail
    go_ret2
    exact ⟨rfl, rfl⟩
  · replace h : (goes 65535 l != 0) = true := by simp; omega
    go_enter Try.func24, Try.ntmps24
    go_wp2_with fail
    refine (sum_ok A c l HB.out _ HR.out).mono ?_
    rintro e w1 ⟨rfl, rfl⟩
    go_wp2_with fail
    go_ret2
    exact ⟨rfl, rfl⟩

set_option maxHeartbeats 4000000 in
theorem open_yes (A : Option Addr) (c : Nat) (l : List Int) (w : World) (hr : Ri .u8 w A l) (hc : l.length ≤ c) (hb : Bytes l) (hn : l.length ≤ 200000) (h2 : 2 ≤ l.length) (h : goes 65535 l = 0) :
    Calls Try.prog 24 #[.slice A l.length c] w fun e w' => ∃ v, e = .returned (.tuple #[v, .bool true]) ∧ Oi .u8 5 w' w.heap.size v (l.take (l.length - 2)) ∧ Below w.heap.size w w' := by
  have HR := Lib.hid hr
  have HB := Lib.hid hb
  clear hr hb
  go_enter Try.func24, Try.ntmps24
  go_wp2_with fail
  refine (sum_ok A c l HB.out _ HR.out).mono ?_
  rintro e w1 ⟨rfl, rfl⟩
  go_wp2_with (at_builtin; (refine wp_append .u8 5 _ w.heap.size (.int .u8 0) 1 rfl _ _ 22 rfl Try.underlying22 (by kernel_rfl) rfl (.slice none 0 0) [] _ _ (l.take (l.length - 2)) (l.length - 2) ?_ rfl rfl (Oi.nil .u8 5 _ _) (HR.out.take _) ?_ ?_ ?_ ?_))
  · rw [List.length_take]; omega
  · unfold maxLen; simp; omega
  · simp; omega
  · exact Nat.le_refl _
  intro v4 w4 ho hg _
  have HW4 := Lib.hid (Below.of_owned (v := .slice none 0 0) (Below.refl w.heap.size w) (Nat.le_refl _) hg (fun q hq => by simp [Value.ownBlock] at hq))
  have HO4 := Lib.hid ho
  clear ho hg
  go_wp2_with fail
  go_ret2
  exact ⟨v4, rfl, HO4.out, HW4.out⟩


theorem bit_at : ∀ b : Fin 256, ∀ j : Fin 8, bits BinOp.and IntKind.i64 ((b.val : Int) / 2 ^ j.val) 1 = if b.val.testBit j.val then 1 else 0 := by decide +kernel
theorem bits_take (b m : Nat) (hm : m < 8) : (bitsOf b).take (m + 1) = (bitsOf b).take m ++ [b.testBit (7 - m)] := by
  rcases (by omega : m = 0 ∨ m = 1 ∨ m = 2 ∨ m = 3 ∨ m = 4 ∨ m = 5 ∨ m = 6 ∨ m = 7) with rfl | rfl | rfl | rfl | rfl | rfl | rfl | rfl <;> rfl
set_option maxHeartbeats 2000000 in
theorem refgoes_ok (s : Int) (hs : 0 ≤ s ∧ s ≤ 65535) (A : Option Addr) (c : Nat) (l : List Int) (hl : Bytes l) (w : World) (hR : Ri .u8 w A l) : Calls Try.prog 32 #[.int .u16 s, .slice A l.length c] w fun e w' => e = .returned (.int .u16 (goes s l)) ∧ w = w' := by
  have HR := Lib.hid hR
  have HL := Lib.hid hl
  have hm := hR.1
  unfold maxLen at hm
  obtain ⟨N, hN⟩ : ∃ N, l.length = N := ⟨_, rfl⟩
  rw [hN] at hm ⊢
  clear hR hl
  go_enter Try.func32, Try.ntmps32
  go_wp2
  go_loopw [5, 15] (fun s5 s15 wr => ∃ k : Nat, Aside (k ≤ N ∧ s15 = .int .i64 k ∧ s5 = .int .i64 (goes s (l.take k)) ∧ w = wr)) (fun _ s15 _ => N - (intOf s15).toNat)
  case atStart =>
    refine ⟨0, Nat.zero_le _, rfl, ?_, rfl⟩
    rw [List.take_zero]
    have h0 : goes s [] = s := by
      obtain ⟨n, rfl⟩ := Int.eq_ofNat_of_zero_le hs.1
      unfold goes allBits
      rw [List.flatMap_nil, show crc (BitVec.ofNat 16 (n : Int).toNat) [] = BitVec.ofNat 16 (n : Int).toNat from rfl, Int.toNat_natCast, BitVec.toNat_ofNat, Nat.mod_eq_of_lt (by omega)]
    rw [h0]
  case round =>
    obtain ⟨k, hX⟩ := hrel
    obtain ⟨hk, rfl, rfl, rfl⟩ := hX.out
    clear hX
    by_cases hlt : k < N
    · have n1 : (k : Int) < (N : Int) := by omega
      obtain ⟨ad, rfl, _, hc⟩ := HR.out.at_ (show k < l.length by omega)
      have hx : l.getD k 0 ∈ l := by rw [List.getD_eq_getElem?_getD, List.getElem?_eq_getElem (by omega)]; exact List.getElem_mem _
      have hb := HL.out _ hx
      have htk : l.take (k + 1) = l.take k ++ [l.getD k 0] := by rw [List.take_add_one, List.getElem?_eq_getElem (by omega), List.getD_eq_getElem?_getD, List.getElem?_eq_getElem (by omega)]; rfl
      obtain ⟨b, hb2⟩ := Int.eq_ofNat_of_zero_le hb.1
      rw [hb2] at hc htk hb
      obtain ⟨v, hv⟩ : ∃ v : BitVec 16, goes s (l.take k) = (v.toNat : Int) := ⟨_, rfl⟩
      have hgo : goes s (l.take (k + 1)) = ((crc v (bitsOf b)).toNat : Int) := by
        rw [htk, ← goes_append, hv]
        unfold goes allBits
        rw [Int.toNat_natCast, BitVec.ofNat_toNat, BitVec.setWidth_eq]
        simp
      have HT := Lib.hid hgo
      rw [hv]
      clear hx htk hgo hb2 hv
      go_wp2
      go_loopw [5, 8] (fun s5 s8 wr => ∃ m : Nat, Aside (m ≤ 8 ∧ s8 = .int .i64 (7 - (m : Int)) ∧ s5 = .int .i64 ((crc v ((bitsOf b).take m)).toNat : Int) ∧ w = wr)) (fun _ s8 _ => (intOf s8 + 1).toNat)
      case atStart => exact ⟨0, by omega, rfl, rfl, rfl⟩
      case round =>
        obtain ⟨m, hY⟩ := hrel
        obtain ⟨hm8, rfl, rfl, rfl⟩ := hY.out
        clear hY
        by_cases hlm : m < 8
        · have hbt := bits_take b m hlm
          have hbn := bs_nat (crc v ((bitsOf b).take m)) (b.testBit (7 - m))
          have hcr : crc v ((bitsOf b).take (m + 1)) = bs (crc v ((bitsOf b).take m)) (b.testBit (7 - m)) := by rw [hbt, crc_append, crc_cons]; rfl
          rw [← hcr] at hbn
          generalize crc v ((bitsOf b).take m) = x at hbn ⊢
          have hxl : x.toNat < 65536 := x.isLt
          have hb8 : bits BinOp.and IntKind.i64 ((b : Int) / 2 ^ (7 - m)) 1 = if b.testBit (7 - m) then 1 else 0 := bit_at ⟨b, by omega⟩ ⟨7 - m, by omega⟩
          obtain ⟨bb, hbb⟩ : ∃ bb, b.testBit (7 - m) = bb := ⟨_, rfl⟩
          rw [hbb] at hb8 hbn
          have h3 := xor64 (x.toNat * 2 % 65536) 4129 (by omega) (by decide)
          have h4 : (((x.toNat * 2 % 65536 : Nat) : Int)) = (x.toNat : Int) * 2 % 65536 := by omega
          rw [h4] at h3
          have h3 : bits BinOp.xor IntKind.i64 ((x.toNat : Int) * 2 % 65536) 4129 = ((x.toNat * 2 % 65536 ^^^ 4129 : Nat) : Int) := h3
          obtain ⟨d, hd⟩ : ∃ d : Int, (if bb = true then 1 else 0 : Int) = d := ⟨_, rfl⟩
          rw [hd] at hb8
          have hdd : (x.toNat / 32768 = if bb = true then 1 else 0) ↔ ((x.toNat : Int) / 32768 = d) := by
            rw [← hd]
            cases bb <;> simp <;> omega
          have HX := Lib.hid hbn
          clear hbt hcr hbb hd hbn
          by_cases hq : (x.toNat : Int) / 32768 = d
          · have hq2 : ((x.toNat : Int) / 32768 != d) = false := by rw [hq]; simp
            have HV := HX.out
            rw [if_pos (hdd.2 hq)] at HV
            have HV := Lib.hid HV
            clear hdd HX hq
            go_wp2
            go_roundw
            case rel => exact ⟨m + 1, by omega, by go_num, by first | (rw [HV.out]; done) | (rw [HV.out]; congr 1), by first | rfl | trivial⟩
            case measure => simp [intOf]; omega
          · have hq2 : ((x.toNat : Int) / 32768 != d) = true := bne_iff_ne.mpr hq
            have HV := HX.out
            rw [if_neg (fun h => hq (hdd.1 h))] at HV
            have HV := Lib.hid HV
            clear hdd HX hq
            generalize (x.toNat * 2 % 65536 ^^^ 4129 : Nat) = z at h3 HV
            go_wp2
            go_roundw
            case rel => exact ⟨m + 1, by omega, by go_num, by rw [HV.out], by first | rfl | trivial⟩
            case measure => simp [intOf]; omega
        · have hm8' : m = 8 := by omega
          subst hm8'
          have HB8 := Lib.hid (show (bitsOf b).take 8 = bitsOf b from rfl)
          go_wp2
          go_roundw
          case rel => exact ⟨k + 1, by omega, by go_num, by rw [HT.out, HB8.out], by first | rfl | trivial⟩
          case measure => simp [intOf]; omega
    · have hk : k = N := by omega
      subst hk
      have HE := Lib.hid (show l.take k = l by rw [← hN, List.take_length])
      have hbd := goes_bd s (l.take k)
      have hw : IntKind.u16.wrap (goes s (l.take k)) = goes s (l.take k) := by rw [a_u16]; omega
      go_wp2
      go_ret
      exact ⟨by rw [HE.out]; rfl, rfl⟩
theorem refsum_ok (A : Option Addr) (c : Nat) (l : List Int) (hl : Bytes l) (w : World) (hR : Ri .u8 w A l) : Calls Try.prog 16 #[.slice A l.length c] w fun e w' => e = .returned (.int .u16 (goes 65535 l)) ∧ w = w' := by
  have C := Lib.hid (refgoes_ok 65535 (by omega) A c l hl w hR)
  clear hR
  go_enter Try.func16, Try.ntmps16
  go_wp2_with (go_at_call 32; (with_reducible refine Calls.mono C.out ?_); rintro e w1 ⟨rfl, rfl⟩)
  go_ret
  exact ⟨rfl, rfl⟩
end Go.Proofs.Ytjkngcpmcmffmaa.Cr
