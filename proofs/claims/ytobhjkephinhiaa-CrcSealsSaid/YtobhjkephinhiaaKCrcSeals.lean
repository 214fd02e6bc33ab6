import Derived.Test.YtobhjkephinhiaaSeal
import Derived.Test.YtobhjkephinhiaaStr
import Derived.BigRegion
namespace Go.Proofs.Ytobhjkephinhiaa.CrcSealsW
open Go.RowKit Go.Proofs.Ytobhjkephinhiaa.Crc Go.Proofs.Ytobhjkephinhiaa.CrcM Go.Proofs.Ytobhjkephinhiaa.Seal Go.Proofs.Ytobhjkephinhiaa.Str Go.Proofs.Ytobhjkephinhiaa.Ow Go.Proofs.Ytobhjkephinhiaa.Rw Go.Proofs.Ytobhjkephinhiaa.Bk Go.Proofs.YtobhjkephinhiaaW.PrintWords Go.Proofs.YtobhjkephinhiaaW.PrintLast

/-- A sealed row: just the sum's two bytes make the sum 0. -/
theorem zero_iff (s : Int) (P : List Int) (u v : Int) (hu : 0 ≤ u ∧ u ≤ 255) (hv : 0 ≤ v ∧ v ≤ 255) : goes s (P ++ [u, v]) = 0 ↔ goes s P = u * 256 + v := by
  have hb := goes_bd s P
  rw [← goes_append]
  generalize goes s P = x at hb
  constructor
  · intro h
    unfold goes allBits at h
    obtain ⟨n, rfl⟩ := Int.eq_ofNat_of_zero_le hb.1
    obtain ⟨a, rfl⟩ := Int.eq_ofNat_of_zero_le hu.1
    obtain ⟨b, rfl⟩ := Int.eq_ofNat_of_zero_le hv.1
    simp only [List.flatMap_cons, List.flatMap_nil, List.append_nil, Int.toNat_natCast] at h
    have h1 := crc_back (bitsOf a ++ bitsOf b) (BitVec.ofNat 16 n) (by simp [bitsOf]) (BitVec.eq_of_toNat_eq (by simp; omega))
    have h2 := own_bits (BitVec.ofNat 16 (a * 256 + b))
    rw [BitVec.toNat_ofNat, Nat.mod_eq_of_lt (show a * 256 + b < 2 ^ 16 by omega), show (a * 256 + b) / 256 = a by omega, show (a * 256 + b) % 256 = b by omega] at h2
    have h3 := crc_back (bitsOf a ++ bitsOf b) _ (by simp [bitsOf]) h2
    rw [← h3] at h1
    have h4 := congrArg BitVec.toNat h1
    rw [BitVec.toNat_ofNat, BitVec.toNat_ofNat, Nat.mod_eq_of_lt (show n < 2 ^ 16 by omega), Nat.mod_eq_of_lt (show a * 256 + b < 2 ^ 16 by omega)] at h4
    omega
  · rintro rfl
    have h := seal_zero (u * 256 + v) []
    have h0 : goes (u * 256 + v) [] = u * 256 + v := by
      unfold goes allBits
      simp only [List.flatMap_nil, crc_nil, BitVec.toNat_ofNat]
      omega
    rw [h0, List.nil_append] at h
    unfold two at h
    rwa [show (u * 256 + v) / 256 = u by omega, show (u * 256 + v) % 256 = v by omega] at h

theorem str_at {w : World} {A : Option Addr} {l : List Int} (h : Ri .u8 w A l) (c m : Nat) (hm : l.length = m) : ∀ n, (convert 22 9 (.slice A m c)).run Try.prog (w.drewN n) = .ok (.string (str l)) (w.drewN n) := fun n => by
  subst hm
  exact str_ok (w.drewN n) 22 9 5 Try.underlying22 Try.underlying5 Try.underlying9 A l c (h.drewN n)

set_option maxRecDepth 100000 in
set_option maxHeartbeats 2000000 in
set_option pp.maxSteps 1000000 in
set_option pp.deepTerms true in
set_option linter.unusedVariables false in
theorem walk (a0 : Option Addr) (len0 cap0 : Nat) (z0 : List Int) (W : World) (w0 : Lf.IsRow .u8 W a0 len0 cap0 z0) (y0 : len0 * 1 ≤ 140737488351232) :
    Calls Try.prog 4 #[.slice a0 len0 cap0] W fun e w' => e = .returned (.bool true) ∧ Below W.heap.size W w' := by
  obtain ⟨l, rfl, hc0, _, hr0, hb0⟩ := row_bytes w0
  have R0 := Lib.hid hr0
  have B0 := Lib.hid hb0
  clear hr0 hb0 w0 y0 z0
  go_enter Try.func4, Try.ntmps4
  go_wp2_with fail
  refine (alive_ok _).mono ?_
  rintro e w1 ⟨rfl, hb⟩
  have HW := Lib.hid hb
  clear hb
  by_cases hl : l.length ≤ 4096
  rotate_left
  · go_wp2_with fail
    go_ret
    exact ⟨rfl, HW.out⟩
  have R0' := Lib.hid (R0.out.below HW.out)
  go_wp2_with (at_builtin; refine wp_append .u8 5 _ W.heap.size (.int .u8 0) 1 rfl _ _ 22 rfl Try.underlying22 (by kernel_rfl) rfl (.slice (some ⟨w1.heap.size, 0, none⟩) 0 0) [] _ _ l _ rfl rfl rfl (Oi.lit .u8 5 w1 W.heap.size HW.out.size [] (by simp) #[] rfl) (R0'.out.alloc _) ?_ ?_ ?_ ?_)
  · unfold maxLen; simp; omega
  · simp; omega
  · have := HW.out.size; simp; omega
  intro v2 w2 ho hg _
  have HW2 := Lib.hid (Below.of_owned (v := .slice (some ⟨w1.heap.size, 0, none⟩) 0 0) (HW.out.alloc HW.out.size _) (by have := HW.out.size; simp; omega) hg (fun q hq => by simp [Value.ownBlock] at hq; subst hq; exact HW.out.size))
  obtain ⟨A1, c1, rfl, hc1, hr1⟩ := ho.ri
  have R1 := Lib.hid hr1
  clear hg HW R0' ho hr1
  go_wp2_with fail
  refine (seal_ok A1 c1 l _ R1.out hc1 B0.out (by omega)).mono ?_
  rintro e w3 ⟨v, rfl, ho, hb⟩
  have HW3 := Lib.hid (next HW2.out hb)
  have R1' := Lib.hid (R1.out.below hb)
  clear hb HW2 R1
  obtain ⟨h1, h2⟩ | ⟨g, c, hv, hgb, hgl, hgc, _, hcell, _⟩ := ho.form
  · simp [two] at h2
  have hSl : (l ++ two (goes 65535 l)).length = l.length + 2 := by simp [two]
  rw [hSl] at hv hgc
  subst hv
  have hrS : Ri .u8 w3 (some ⟨g, 0, none⟩) (l ++ two (goes 65535 l)) := by
    obtain ⟨A, c', he, _, hr⟩ := ho.ri
    injection he with e1 e2 e3
    subst e1
    exact hr
  have RS := Lib.hid hrS
  have e0 := hcell l.length (goes 65535 l / 256) (by rw [List.getElem?_append_right (Nat.le_refl _), Nat.sub_self]; rfl)
  have e1 := hcell (l.length + 1) (goes 65535 l % 256) (by rw [List.getElem?_append_right (by omega), show l.length + 1 - l.length = 1 by omega]; rfl)
  have E0 := Lib.hid e0
  have E1 := Lib.hid e1
  clear hcell hrS ho e0 e1 hSl
  have R03 := Lib.hid (R0.out.below HW3.out)
  go_wp2_with fail
  refine (refsum_ok a0 cap0 l _ R03.out hc0 B0.out (by omega)).mono ?_
  rintro e w4 ⟨rfl, n4, rfl⟩
  have HW4 := Lib.hid (below_drewN_ HW3.out n4)
  have R04 := Lib.hid (R03.out.drewN n4)
  have R14 := Lib.hid (R1'.out.drewN n4)
  have RS4 := Lib.hid (RS.out.drewN n4)
  have E04 : Hid ((w3.drewN n4).cell? ⟨g, l.length, none⟩ = some (.int .u8 (goes 65535 l / 256))) := E0
  have E14 : Hid ((w3.drewN n4).cell? ⟨g, l.length + 1, none⟩ = some (.int .u8 (goes 65535 l % 256))) := E1
  clear HW3 R03 R1' RS E0 E1
  generalize w3.drewN n4 = w4 at HW4 R04 R14 RS4 E04 E14 ⊢
  have hbd := goes_bd 65535 l
  have k1 := str_at R14.out c1 l.length rfl
  have k0 := str_at R04.out cap0 l.length rfl
  have kS := str_at (l := l) (by have := RS4.out.take l.length; rwa [List.take_left] at this) c l.length rfl
  have e0 := E04.out
  have e1 := E14.out
  go_wp2_with fail
  have q1 : IntKind.i64.wrap ((l.length : Int) + 2) = (l.length : Int) + 2 := IntWalk.i64_in _ ⟨by omega, by omega⟩
  have q2 : IntKind.i64.wrap ((l.length : Int) + 1) = (l.length : Int) + 1 := IntWalk.i64_in _ ⟨by omega, by omega⟩
  have u1 : IntKind.u16.wrap ((goes 65535 l).tdiv 256) = goes 65535 l / 256 := by
    rw [Int.tdiv_eq_ediv_of_nonneg hbd.1]
    exact IntWalk.u16_in _ ⟨by omega, by omega⟩
  have u2 : IntKind.u8.wrap (goes 65535 l / 256) = goes 65535 l / 256 := IntWalk.u8_in _ ⟨by omega, by omega⟩
  have u3 : IntKind.u16.wrap ((goes 65535 l).tmod 256) = goes 65535 l % 256 := by
    rw [Int.tmod_eq_emod_of_nonneg hbd.1]
    exact IntWalk.u16_in _ ⟨by omega, by omega⟩
  have u4 : IntKind.u8.wrap (goes 65535 l % 256) = goes 65535 l % 256 := IntWalk.u8_in _ ⟨by omega, by omega⟩
  have q3 : (l.length : Int) ≤ (c : Int) := by omega
  have q4 : (l.length : Int) < (l.length : Int) + 2 := by omega
  have q5 : (l.length : Int) + 1 < (l.length : Int) + 2 := by omega
  have q6 : (0 : Int) ≤ (l.length : Int) := by omega
  have q7 : (0 : Int) ≤ (l.length : Int) + 1 := by omega
  go_quiet (fail)
  have HW5 := Lib.hid (below_drewN_ HW4.out nq)
  have R05 := Lib.hid (R04.out.drewN nq)
  have R15 := Lib.hid (R14.out.drewN nq)
  have RS5 := Lib.hid (RS4.out.drewN nq)
  clear HW4 R04 R14 RS4 E04 E14 k0 k1 kS e0 e1 q1 q2 q3 q4 q5 q6 q7 u1 u2 u3 u4
  generalize w4.drewN nq = w5 at HW5 R05 R15 RS5 ⊢
  have hS : Calls Try.prog 14 #[.slice (some ⟨g, 0, none⟩) (l.length + 2) c] w5 fun e w' => ∃ v, e = .returned (.tuple #[v, .bool true]) ∧ Oi .u8 5 w' w5.heap.size v l ∧ Below w5.heap.size w5 w' := by
    have hSl : (l ++ two (goes 65535 l)).length = l.length + 2 := by simp [two]
    have h := open_yes (some ⟨g, 0, none⟩) c (l ++ two (goes 65535 l)) w5 RS5.out (by omega) (B0.out.app (Bytes.two (goes_bd _ _))) (by omega) (by omega) (seal_zero 65535 l)
    rw [hSl, Nat.add_sub_cancel, List.take_left] at h
    exact h
  have HS := Lib.hid hS
  clear hS
  go_wp2_with fail
  refine HS.out.mono ?_
  rintro e w6 ⟨v6, rfl, ho, hb⟩
  have HW6 := Lib.hid (next HW5.out hb)
  have R06 := Lib.hid (R05.out.below hb)
  have R16 := Lib.hid (R15.out.below hb)
  obtain ⟨A6, c6, rfl, hc6, hr⟩ := ho.ri
  have R66 := Lib.hid hr
  clear hr ho hb HS HW5 R05 R15 RS5
  by_cases h2 : 2 ≤ l.length
  rotate_left
  · go_wp2_with fail
    refine (open_no A1 c1 l _ R16.out hc1 B0.out (by omega) (.inl (by omega))).mono ?_
    rintro e w7 ⟨rfl, n7, rfl⟩
    have R07 := Lib.hid (R06.out.drewN n7)
    have R67 := Lib.hid (R66.out.drewN n7)
    have HW7 := Lib.hid (below_drewN_ HW6.out n7)
    clear R06 R16 R66 HW6
    generalize w6.drewN n7 = w7 at R07 R67 HW7 ⊢
    have g1 : decide (2 ≤ (l.length : Int)) = false := decide_eq_false (by omega)
    go_wp2_with fail
    go_quiet (fail)
    have k0 := str_at (R07.out.drewN nq) cap0 l.length rfl
    have k6 := str_at (R67.out.drewN nq) c6 l.length rfl
    have HW8 := Lib.hid (below_drewN_ HW7.out nq)
    clear R07 R67 HW7
    generalize w7.drewN nq = w8 at k0 k6 HW8 ⊢
    go_wp2_with fail
    go_quiet (fail)
    go_wp2
    go_ret
    exact ⟨rfl, below_drewN_ HW8.out _⟩
  · obtain ⟨u, v, hu, hv, hlast, hsplit⟩ : ∃ u v : Int, (0 ≤ u ∧ u ≤ 255) ∧ (0 ≤ v ∧ v ≤ 255) ∧ (l[l.length - 2]? = some u ∧ l[l.length - 1]? = some v) ∧ l = l.take (l.length - 2) ++ [u, v] := by
      have e1 : l[l.length - 2]? = some l[l.length - 2] := List.getElem?_eq_getElem (by omega)
      have e2 : l[l.length - 1]? = some l[l.length - 1] := List.getElem?_eq_getElem (by omega)
      refine ⟨_, _, B0.out _ (List.getElem_mem _), B0.out _ (List.getElem_mem _), ⟨e1, e2⟩, ?_⟩
      apply List.ext_getElem?
      intro j
      rcases Nat.lt_trichotomy j (l.length - 2) with h | h | h
      · rw [List.getElem?_append_left (by rw [List.length_take]; omega), List.getElem?_take, if_pos h]
      · subst h
        rw [List.getElem?_append_right (by rw [List.length_take]; omega), List.length_take, show l.length - 2 - min (l.length - 2) l.length = 0 by omega, e1]
        rfl
      · by_cases h3 : j = l.length - 1
        · subst h3
          rw [List.getElem?_append_right (by rw [List.length_take]; omega), List.length_take, show l.length - 1 - min (l.length - 2) l.length = 1 by omega, e2]
          rfl
        · rw [List.getElem?_eq_none (by omega), List.getElem?_eq_none (by rw [List.length_append, List.length_take]; simp; omega)]
    have hz := zero_iff 65535 (l.take (l.length - 2)) u v hu hv
    rw [← hsplit] at hz
    have HZ := Lib.hid hz
    have HL := Lib.hid hlast
    have HU := Lib.hid hu
    have HV := Lib.hid hv
    clear hz hlast hsplit hu hv
    by_cases hcan : goes 65535 l = 0
    · go_wp2_with fail
      refine (open_yes A1 c1 l _ R16.out hc1 B0.out (by omega) h2 hcan).mono ?_
      rintro e w7 ⟨v7, rfl, ho, hb⟩
      have HW7 := Lib.hid (next HW6.out hb)
      have R07 := Lib.hid (R06.out.below hb)
      have R67 := Lib.hid (R66.out.below hb)
      obtain ⟨A7, c7, rfl, hc7, hr⟩ := ho.ri
      have R77 := Lib.hid hr
      clear hr ho hb HW6 R06 R16 R66
      have hPl : (l.take (l.length - 2)).length = l.length - 2 := by rw [List.length_take]; omega
      obtain ⟨ad, rfl, _, hcell⟩ := R07.out.2 (by omega)
      have d0 : w7.cell? (ad.add (l.length - 2)) = some (.int .u8 u) := hcell _ _ HL.out.1
      have d1 : w7.cell? (ad.add (l.length - 1)) = some (.int .u8 v) := hcell _ _ HL.out.2
      have hs : ∀ n, Calls Try.prog 10 #[.slice (some ad) (l.length - 2) cap0] (w7.drewN n) fun e w' => e = .returned (.int .u16 (goes 65535 (l.take (l.length - 2)))) ∧ Drawn0 (w7.drewN n) w' := fun n => by
        have := refsum_ok (some ad) cap0 (l.take (l.length - 2)) (w7.drewN n) ((R07.out.take _).drewN n) (by omega) (B0.out.take _) (by omega)
        rwa [hPl] at this
      have HSum := Lib.hid hs
      have g1 : decide (2 ≤ (l.length : Int)) = true := decide_eq_true (by omega)
      have q1 : IntKind.i64.wrap ((l.length : Int) - 2) = (l.length : Int) - 2 := IntWalk.i64_in _ ⟨by omega, by omega⟩
      have q2 : IntKind.i64.wrap ((l.length : Int) - 1) = (l.length : Int) - 1 := IntWalk.i64_in _ ⟨by omega, by omega⟩
      have nu : IntKind.u16.wrap u = u := IntWalk.u16_in _ ⟨by have := HU.out; omega, by have := HU.out; omega⟩
      have nv : IntKind.u16.wrap v = v := IntWalk.u16_in _ ⟨by have := HV.out; omega, by have := HV.out; omega⟩
      have n1 : IntKind.u16.wrap (u * 256) = u * 256 := IntWalk.u16_in _ ⟨by have := HU.out; omega, by have := HU.out; omega⟩
      have n2 : IntKind.u16.wrap (u * 256 + v) = u * 256 + v := IntWalk.u16_in _ ⟨by have := HU.out; have := HV.out; omega, by have := HU.out; have := HV.out; omega⟩
      have n3 : (goes 65535 (l.take (l.length - 2)) == u * 256 + v) = true := by rw [HZ.out.1 hcan]; exact beq_self_eq_true _
      have N3 := Lib.hid n3
      clear hs hcell hPl n3
      go_wp2_with fail
      go_quiet ((go_at_call 10; exact Calls.quiet_of ((HSum.out _).mono (fun _ _ ⟨he, hd⟩ => ⟨he, hd.out⟩))))
      rw [N3.out]
      have HW8 := Lib.hid (below_drewN_ HW7.out nq)
      have R08 := Lib.hid (R07.out.drewN nq)
      have R68 := Lib.hid (R67.out.drewN nq)
      have R78 := Lib.hid (R77.out.drewN nq)
      clear HW7 R07 R67 R77 d0 d1 HSum
      generalize w7.drewN nq = w8 at HW8 R08 R68 R78 ⊢
      have k0 := str_at R08.out cap0 l.length rfl
      have k6 := str_at R68.out c6 l.length rfl
      have k7 := str_at R78.out c7 (l.length - 2) (by rw [List.length_take]; omega)
      have kP := str_at (R08.out.take (l.length - 2)) cap0 (l.length - 2) (by rw [List.length_take]; omega)
      go_wp2_with fail
      go_quiet (fail)
      go_wp2
      go_ret
      exact ⟨rfl, below_drewN_ HW8.out _⟩
    · go_wp2_with fail
      refine (open_no A1 c1 l _ R16.out hc1 B0.out (by omega) (.inr hcan)).mono ?_
      rintro e w7 ⟨rfl, n7, rfl⟩
      have R07 := Lib.hid (R06.out.drewN n7)
      have R67 := Lib.hid (R66.out.drewN n7)
      have HW7 := Lib.hid (below_drewN_ HW6.out n7)
      clear R06 R16 R66 HW6
      generalize w6.drewN n7 = w7 at R07 R67 HW7 ⊢
      have hPl : (l.take (l.length - 2)).length = l.length - 2 := by rw [List.length_take]; omega
      obtain ⟨ad, rfl, _, hcell⟩ := R07.out.2 (by omega)
      have d0 : w7.cell? (ad.add (l.length - 2)) = some (.int .u8 u) := hcell _ _ HL.out.1
      have d1 : w7.cell? (ad.add (l.length - 1)) = some (.int .u8 v) := hcell _ _ HL.out.2
      have hs : ∀ n, Calls Try.prog 10 #[.slice (some ad) (l.length - 2) cap0] (w7.drewN n) fun e w' => e = .returned (.int .u16 (goes 65535 (l.take (l.length - 2)))) ∧ Drawn0 (w7.drewN n) w' := fun n => by
        have := refsum_ok (some ad) cap0 (l.take (l.length - 2)) (w7.drewN n) ((R07.out.take _).drewN n) (by omega) (B0.out.take _) (by omega)
        rwa [hPl] at this
      have HSum := Lib.hid hs
      have g1 : decide (2 ≤ (l.length : Int)) = true := decide_eq_true (by omega)
      have q1 : IntKind.i64.wrap ((l.length : Int) - 2) = (l.length : Int) - 2 := IntWalk.i64_in _ ⟨by omega, by omega⟩
      have q2 : IntKind.i64.wrap ((l.length : Int) - 1) = (l.length : Int) - 1 := IntWalk.i64_in _ ⟨by omega, by omega⟩
      have nu : IntKind.u16.wrap u = u := IntWalk.u16_in _ ⟨by have := HU.out; omega, by have := HU.out; omega⟩
      have nv : IntKind.u16.wrap v = v := IntWalk.u16_in _ ⟨by have := HV.out; omega, by have := HV.out; omega⟩
      have n1 : IntKind.u16.wrap (u * 256) = u * 256 := IntWalk.u16_in _ ⟨by have := HU.out; omega, by have := HU.out; omega⟩
      have n2 : IntKind.u16.wrap (u * 256 + v) = u * 256 + v := IntWalk.u16_in _ ⟨by have := HU.out; have := HV.out; omega, by have := HU.out; have := HV.out; omega⟩
      have n3 : (goes 65535 (l.take (l.length - 2)) == u * 256 + v) = false := beq_eq_false_iff_ne.mpr (fun h => hcan (HZ.out.2 h))
      have N3 := Lib.hid n3
      clear hs hcell hPl n3
      go_wp2_with fail
      go_quiet ((go_at_call 10; exact Calls.quiet_of ((HSum.out _).mono (fun _ _ ⟨he, hd⟩ => ⟨he, hd.out⟩))))
      rw [N3.out]
      have HW8 := Lib.hid (below_drewN_ HW7.out nq)
      have R08 := Lib.hid (R07.out.drewN nq)
      have R68 := Lib.hid (R67.out.drewN nq)
      clear HW7 R07 R67 d0 d1 HSum
      generalize w7.drewN nq = w8 at HW8 R08 R68 ⊢
      have k0 := str_at R08.out cap0 l.length rfl
      have k6 := str_at R68.out c6 l.length rfl
      go_wp2_with fail
      go_quiet (fail)
      go_wp2
      go_ret
      exact ⟨rfl, below_drewN_ HW8.out _⟩
end Go.Proofs.Ytobhjkephinhiaa.CrcSealsW
