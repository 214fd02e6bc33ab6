/- A row of texts is as one of numbers: each cell stands for itself. No condition. -/
import Derived.Test.YtdfholbeimbalabRAlive
namespace Go.Proofs.Ytdfholbeimbalab.RingTextsW
open Go.RowKit Go.Proofs.Ytdfholbeimbalab.Bk Go.Proofs.Ytdfholbeimbalab.Rw Go.Proofs.Ytdfholbeimbalab.Ow Go.Proofs.Ytdfholbeimbalab.Kp Go.Proofs.Ytdfholbeimbalab.Ring Go.Proofs.Ytdfholbeimbalab.RAlive Go.Proofs.Ytdfholbeimbalab.In

theorem elem1 {w : World} {A : Option Addr} {len : Nat} {vs : List (List Value)} (h : Lf.RowsAt w [.s] A len vs) {k : Nat} (hk : k < len) :
    ∃ (ad : Addr) (x0 : ByteArray), A = some ad ∧ vs[k]? = some [.string x0] ∧ w.cell? (ad.add (k * 1)) = some (.string x0) ∧ (x0.size ≤ maxLen) := by
  obtain ⟨ad, c, rfl, hv, hL, hc0, hcj⟩ := h.elem hk
  obtain ⟨u0, g0, q0, ⟨x0, e0, f0⟩, L0⟩ := hL.cons
  have n_ := L0.nil
  have hcc : c = [.string x0] := by rw [q0, e0, n_]
  rw [hcc] at hv hc0 hcj
  exact ⟨ad, x0, rfl, hv, hc0 _ rfl, f0⟩

/-- The texts, as_ values. -/
def hd (z : List (List Value)) : List Value := z.map (fun c => c.headD (.string ByteArray.empty))

set_option maxRecDepth 100000 in
set_option maxHeartbeats 2000000 in
set_option linter.unusedVariables false in
theorem walk (a0 : Int) (a1 : Option Addr) (len1 cap1 : Nat) (z1 : List (List Value)) (W : World) (w0 : (Lit.int .i64 a0).wf = true) (l1 : len1 ≤ cap1) (m1 : cap1 ≤ maxLen) (w1 : Lf.RowsAt W [.s] a1 len1 z1) :
    Calls Try.prog 4 #[.int .i64 a0, .slice a1 len1 cap1] W fun e w' => e = .returned (.bool true) ∧ Below W.heap.size W w' := by
  have hz : (hd z1).length = len1 := by unfold hd; rw [List.length_map]; exact w1.1
  have HZ := Lib.hid hz
  have R1 := Lib.hid w1
  clear w1 hz
  unfold maxLen at m1
  go_enter Try.func4, Try.ntmps4
  go_wp2_with fail
  refine (alive_ok _).mono ?_
  rintro e w1 ⟨rfl, hb⟩
  have HW := Lib.hid hb
  clear hb
  by_cases hg : 1 ≤ a0 ∧ a0 ≤ 64 ∧ len1 ≤ 60
  rotate_left
  · have HG := Lib.hid hg
    clear hg
    go_wp2_with fail
    all_goals first
      | (go_ret; exact ⟨rfl, HW.out⟩)
      | (refine absurd ?_ HG.out; omega)
  obtain ⟨g0, g1, g2⟩ := hg
  obtain ⟨r, rfl⟩ := Int.eq_ofNat_of_zero_le (show 0 ≤ a0 by omega)
  go_wp2_with fail
  refine (RS.new_ok r _ (by omega) (by omega)).mono ?_
  rintro e w3 ⟨p, g, rfl, hr, hp, hgg, hb⟩
  have HR := Lib.hid hr
  have HB := Lib.hid (HW.out.trans (hb.mono HW.out.size))
  have HP := Lib.hid (show ∀ k, k = p ∨ k = g → W.heap.size ≤ k by have := HW.out.size; omega)
  clear hr hp hgg hb HW
  go_wp2
  go_loopw [36] (fun i wr => ∃ j : Nat, j ≤ len1 ∧ i = .int .i64 j ∧ Rg 55 9 wr p g r ((hd z1).take (min j r)) ∧ Below W.heap.size W wr) (fun i _ => len1 - (intOf i).toNat)
  case atStart => exact ⟨0, Nat.zero_le _, rfl, by rw [Nat.zero_min, List.take_zero]; exact HR.out, HB.out⟩
  case round =>
    clear HR HB
    obtain ⟨j, hj, rfl, hr, hb⟩ := hrel
    have HR := Lib.hid hr
    have HB := Lib.hid hb
    clear hr hb
    by_cases hlt : j < len1
    · obtain ⟨ad1, x, rfl, hx, cx, _⟩ := elem1 (R1.out.below (HB.out.mono (Nat.le_refl _))) hlt
      rw [Nat.mul_one] at cx
      have hxd : (hd z1)[j]? = some (.string x) := by unfold hd; rw [List.getElem?_map, hx]; rfl
      have HXD := Lib.hid hxd
      clear hx hxd
      by_cases hjr : j < r
      · have hlen : ((hd z1).take (min j r)).length = j := by rw [List.length_take, HZ.out]; omega
        have HL := Lib.hid hlen
        clear hlen
        go_wp2_with fail
        refine (RS.push_ok p g r _ x _ HR.out (by rw [HL.out]; exact hjr) (by omega)).mono ?_
        rintro e w5 ⟨rfl, hr, hk⟩
        have HR5 := Lib.hid (show Rg 55 9 w5 p g r ((hd z1).take (min (j + 1) r)) by
          rw [show min (j + 1) r = j + 1 by omega, List.take_add_one, HXD.out]
          rw [show min j r = j by omega] at hr
          exact hr)
        have HB5 := Lib.hid (below_kp HB.out HB.out.size hk HP.out)
        clear hr hk HR HB
        go_wp2
        go_roundw
        case rel => exact ⟨j + 1, by omega, by go_num, HR5.out, HB5.out⟩
        case measure => simp [intOf]; omega
      · have hlen : ((hd z1).take (min j r)).length = r := by rw [List.length_take, HZ.out]; omega
        have HL := Lib.hid hlen
        clear hlen
        go_wp2_with fail
        refine (RS.push_full p g r _ x _ HR.out HL.out).mono ?_
        rintro e w5 ⟨rfl, m, rfl⟩
        have HR5 := Lib.hid (show Rg 55 9 (wr.drewN m) p g r ((hd z1).take (min (j + 1) r)) by
          rw [show min (j + 1) r = min j r by omega]
          exact HR.out.drewN m)
        go_wp2
        go_roundw
        case rel => exact ⟨j + 1, by omega, by go_num, HR5.out, below_drewN_ HB.out m⟩
        case measure => simp [intOf]; omega
    · obtain rfl : len1 = j := by omega
      obtain ⟨mm, hmm, hmr, hml⟩ : ∃ mm, min len1 r = mm ∧ mm ≤ r ∧ mm ≤ len1 := ⟨_, rfl, by omega, by omega⟩
      rw [hmm] at HR
      have hmi : (if len1 < r then (len1 : Int) else (r : Int)) = (mm : Int) := by split <;> omega
      have HMI := Lib.hid hmi
      clear hmi hmm
      go_wp2
      go_loopw [9] (fun i wr => ∃ k : Nat, k ≤ mm ∧ i = .int .i64 k ∧ Rg 55 9 wr p g r (((hd z1).take mm).drop k) ∧ Below W.heap.size W wr) (fun i _ => mm - (intOf i).toNat)
      case atStart => exact ⟨0, Nat.zero_le _, rfl, by rw [List.drop_zero]; exact HR.out, HB.out⟩
      case round =>
        clear HR HB
        obtain ⟨k, hk, rfl, hr, hb⟩ := hrel
        have HR := Lib.hid hr
        have HB := Lib.hid hb
        clear hr hb
        by_cases hlt : k < mm
        · obtain ⟨ad1, x, rfl, hx, cW, _⟩ := elem1 R1.out (show k < len1 by omega)
          rw [Nat.mul_one] at cW
          have hbl := World.block_lt_of_cell? W _ cW
          have cx := (HB.out.cell hbl).trans cW
          have CW := Lib.hid cW
          clear cW
          have hd2 : ((hd z1).take mm).drop k = .string x :: ((hd z1).take mm).drop (k + 1) := by
            have hkl : k < ((hd z1).take mm).length := by rw [List.length_take, HZ.out]; omega
            rw [List.drop_eq_getElem_cons hkl]
            congr 1
            have : ((hd z1).take mm)[k]? = some (.string x) := by
              rw [List.getElem?_take, if_pos hlt]
              unfold hd
              rw [List.getElem?_map, hx]
              rfl
            rw [List.getElem?_eq_getElem hkl] at this
            exact Option.some.inj this
          have HR2 := Lib.hid (hd2 ▸ HR.out)
          clear hx hd2
          have HMI2 := HMI.out
          go_wp2_with fail
          refine (RS.pop_ok p g r _ _ _ HR2.out (by omega)).mono ?_
          rintro e w5 ⟨rfl, hr, hk2⟩
          have HR5 := Lib.hid hr
          have HB5 := Lib.hid (below_kp HB.out HB.out.size hk2 HP.out)
          have cx5 := (HB5.out.cell hbl).trans CW.out
          clear hr hk2 HR2 HR HB cx
          go_wp2
          go_roundw
          case rel => exact ⟨k + 1, by omega, by go_num, HR5.out, HB5.out⟩
          case measure => simp [intOf]; omega
        · have hd2 : ((hd z1).take mm).drop k = [] := by rw [List.drop_eq_nil_of_le]; rw [List.length_take, HZ.out]; omega
          have HR2 := Lib.hid (hd2 ▸ HR.out)
          clear hd2
          have HMI2 := HMI.out
          go_wp2_with (go_at_call 14; with_reducible refine Calls.mono (RS.pop_none p g r _ HR2.out) ?_; rintro e w5 ⟨rfl, rfl⟩)
          go_ret
          exact ⟨rfl, HB.out⟩
end Go.Proofs.Ytdfholbeimbalab.RingTextsW
