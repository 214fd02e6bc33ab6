/- The walks of crc's functions, as_ contracts over rows that read as lists of bytes. -/
import Derived.Test.YtobhjkephinhiaaCrc
import Derived.Test.YtobhjkephinhiaaOw
import Derived.Test.YtobhjkephinhiaaBk
import Derived.Test.YtobhjkephinhiaaLf
import Derived.Deep.QuietTactic
import Derived.BigQuiet
import Derived.WalkLawsBesides
import Derived.WalkSpells
import Derived.Lib.Hide
import Derived.Lib.SlBytesConst
namespace Go.Proofs.Ytobhjkephinhiaa.Seal
open Go.RowKit Go.Proofs.Ytobhjkephinhiaa.PCrcIs Go.Proofs.Ytobhjkephinhiaa.Crc Go.Proofs.Ytobhjkephinhiaa.Ow Go.Proofs.Ytobhjkephinhiaa.Rw Go.Proofs.Ytobhjkephinhiaa.Bk Go.Proofs.YtobhjkephinhiaaW.PrintWords Go.Proofs.YtobhjkephinhiaaW.PrintLast

theorem c_of_ri {k : IntKind} {w : World} {A : Option Addr} {l : List Int} (h : Ri k w A l) : Kd.C (Kd.int k) w A l.length l :=
  ⟨rfl, by have := h.1; unfold maxLen at this; omega, fun hn => by
    obtain ⟨ad, rfl, _, hc⟩ := h.2 hn
    refine ⟨ad, rfl, fun j p hj => ⟨[.int k p], rfl, rfl, fun i u hu => ?_⟩⟩
    match i, hu with
    | 0, hu =>
      simp at hu
      subst hu
      rw [show (Kd.int k).sz = 1 from rfl]
      simpa using hc j p hj⟩

theorem sum_ok (A : Option Addr) (c : Nat) (l : List Int) (w : World) (hr : Ri .u8 w A l) (hc : l.length ≤ c) (hb : Bytes l) (hn : l.length ≤ 140737488351232) :
    Calls Try.prog 9 #[.slice A l.length c] w fun e w' => e = .returned (.int .u16 (goes 65535 l)) ∧ Drawn0 w w' :=
  crc_Sum.calls _ A c l _ w (c_of_ri hr) hc (sum_is l hb hn)
theorem goes_ok (s : Int) (A : Option Addr) (c : Nat) (l : List Int) (w : World) (hs : 0 ≤ s ∧ s ≤ 65535) (hr : Ri .u8 w A l) (hc : l.length ≤ c) (hb : Bytes l) (hn : l.length ≤ 140737488351232) :
    Calls Try.prog 11 #[.int .u16 s, .slice A l.length c] w fun e w' => e = .returned (.int .u16 (goes s l)) ∧ Drawn0 w w' :=
  crc_Goes.calls _ s A c l _ w (c_of_ri hr) hc (goes_is s hs l hb hn)

theorem refsum_ok (A : Option Addr) (c : Nat) (l : List Int) (w : World) (hr : Ri .u8 w A l) (hc : l.length ≤ c) (hb : Bytes l) (hn : l.length ≤ 140737488351232) :
    Calls Try.prog 10 #[.slice A l.length c] w fun e w' => e = .returned (.int .u16 (goes 65535 l)) ∧ Drawn0 w w' :=
  angelusref03_Sum.calls _ A c l _ w (c_of_ri hr) hc (refsum_is l hb hn)
theorem refgoes_ok (s : Int) (A : Option Addr) (c : Nat) (l : List Int) (w : World) (hs : 0 ≤ s ∧ s ≤ 65535) (hr : Ri .u8 w A l) (hc : l.length ≤ c) (hb : Bytes l) (hn : l.length ≤ 140737488351232) :
    Calls Try.prog 12 #[.int .u16 s, .slice A l.length c] w fun e w' => e = .returned (.int .u16 (goes s l)) ∧ Drawn0 w w' :=
  angelusref03_Goes.calls _ s A c l _ w (c_of_ri hr) hc (ref_is s hs l hb hn)
/-- An argument's bytes. -/
theorem row_bytes {w : World} {A : Option Addr} {len cap : Nat} {z : List Int} (h : Lf.IsRow .u8 w A len cap z) : ∃ l, len = l.length ∧ l.length ≤ cap ∧ cap ≤ maxLen ∧ Ri .u8 w A l ∧ Bytes l := by
  rcases h with ⟨rfl, rfl, rfl, rfl⟩ | ⟨x, rfl, h1, h2, h3, h4, h5⟩
  · exact ⟨[], rfl, Nat.le_refl _, by unfold maxLen; omega, Ri.nil, fun x hx => by simp at hx⟩
  · have hl : (z.take len).length = len := by rw [List.length_take]; omega
    refine ⟨z.take len, hl.symm, by omega, h2, ⟨by omega, fun h0 => ⟨x, rfl, ?_, fun j y hy => ?_⟩⟩, fun y hy => ?_⟩
    · have := World.block_lt_of_cell? w _ (h4 0 (by omega))
      rwa [block_of_add] at this
    · rw [List.getElem?_take] at hy
      split at hy
      · have hj : j < z.length := (List.getElem?_eq_some_iff.1 hy).1
        rw [h4 j hj, List.getD_eq_getElem?_getD, hy]
        rfl
      · cases hy
    · have := h5 y (List.mem_of_mem_take hy)
      simp [Lit.wf, IntKind.min, IntKind.max, IntKind.bits, IntKind.signed] at this
      omega

set_option maxHeartbeats 4000000 in
theorem seal_ok (A : Option Addr) (c : Nat) (l : List Int) (w : World) (hr : Ri .u8 w A l) (hc : l.length ≤ c) (hb : Bytes l) (hn : l.length ≤ 100000) :
    Calls Try.prog 13 #[.slice A l.length c] w fun e w' => ∃ v, e = .returned v ∧ Oi .u8 5 w' w.heap.size v (l ++ two (goes 65535 l)) ∧ Below w.heap.size w w' := by
  have HR := Lib.hid hr
  have HB := Lib.hid hb
  clear hr hb
  go_enter Try.func13, Try.ntmps13
  go_wp2_with fail
  refine (sum_ok A c l _ HR.out hc HB.out (by omega)).mono ?_
  rintro e w1 ⟨rfl, n, rfl⟩
  go_wp2_with (with_reducible refine wp_make .u8 5 _ w.heap.size (.int .u8 0) 1 rfl 22 _ _ rfl Try.underlying22 (by kernel_rfl) .i64 .i64 _ (l.length + 2) rfl rfl (by omega) ?_ ?_ ?_ ?_)
  · omega
  · unfold maxLen; omega
  · exact Nat.le_refl _
  intro w2 ho hg
  have HO := Lib.hid ho
  have HW := Lib.hid ((below_drewN_ (Below.refl w.heap.size w) n).grown hg (Nat.le_refl _) (fun k hk => by cases hk))
  clear ho hg
  have HR2 := Lib.hid (HR.out.below HW.out)
  go_wp2_with (at_builtin; refine wp_append .u8 5 _ w.heap.size (.int .u8 0) 1 rfl _ _ 22 rfl Try.underlying22 (by kernel_rfl) rfl _ _ _ _ _ _ rfl rfl rfl HO.out HR2.out ?_ ?_ ?_ ?_)
  · unfold maxLen; simp; omega
  · simp; omega
  · exact HW.out.size
  intro v3 w3 ho hg _
  have HW3 := Lib.hid (Below.of_owned HW.out HW.out.size hg (fun q hq => (HO.out.owner q hq).1))
  have HO3 := Lib.hid ho
  clear ho hg HO HW HR2
  have hbd := goes_bd 65535 l
  go_wp2_with (at_builtin; refine wp_append .u8 5 _ w.heap.size (.int .u8 0) 1 rfl _ _ 22 rfl Try.underlying22 (by kernel_rfl) rfl _ _ _ _ (two (goes 65535 l)) _ rfl rfl rfl (HO3.out.alloc _) (Ri.lit .u8 5 _ (two (goes 65535 l)) (by unfold maxLen two; simp) _ rfl) ?_ ?_ ?_ ?_)
  · unfold maxLen two; simp; omega
  · simp [two]; omega
  · have := HW3.out.size; simp; omega
  intro v4 w4 ho hg _
  have HW4 := Lib.hid (Below.of_owned (HW3.out.alloc HW3.out.size _) (by have := HW3.out.size; simp; omega) hg (fun q hq => (HO3.out.owner q hq).1))
  have HO4 := Lib.hid ho
  clear ho hg HO3 HW3
  go_wp2_with fail
  go_ret
  refine ⟨v4, rfl, ?_, HW4.out⟩
  exact HO4.out

theorem open_no (A : Option Addr) (c : Nat) (l : List Int) (w : World) (hr : Ri .u8 w A l) (hc : l.length ≤ c) (hb : Bytes l) (hn : l.length ≤ 200000) (h : l.length < 2 ∨ goes 65535 l ≠ 0) :
    Calls Try.prog 14 #[.slice A l.length c] w fun e w' => e = .returned (.tuple #[.slice none 0 0, .bool false]) ∧ Drawn0 w w' := by
  have HR := Lib.hid hr
  have HB := Lib.hid hb
  clear hr hb
  by_cases h2 : l.length < 2
  · clear h
    go_enter Try.func14, Try.ntmps14
    go_wp2_with fail
    go_ret2
    exact ⟨rfl, Drawn0.refl _⟩
  · replace h : (goes 65535 l != 0) = true := by simp; omega
    go_enter Try.func14, Try.ntmps14
    go_wp2_with fail
    refine (sum_ok A c l _ HR.out hc HB.out (by omega)).mono ?_
    rintro e w1 ⟨rfl, n, rfl⟩
    go_wp2_with fail
    go_ret2
    exact ⟨rfl, ⟨n, rfl⟩⟩

set_option maxHeartbeats 4000000 in
theorem open_yes (A : Option Addr) (c : Nat) (l : List Int) (w : World) (hr : Ri .u8 w A l) (hc : l.length ≤ c) (hb : Bytes l) (hn : l.length ≤ 200000) (h2 : 2 ≤ l.length) (h : goes 65535 l = 0) :
    Calls Try.prog 14 #[.slice A l.length c] w fun e w' => ∃ v, e = .returned (.tuple #[v, .bool true]) ∧ Oi .u8 5 w' w.heap.size v (l.take (l.length - 2)) ∧ Below w.heap.size w w' := by
  have HR := Lib.hid hr
  have HB := Lib.hid hb
  clear hr hb
  go_enter Try.func14, Try.ntmps14
  go_wp2_with fail
  refine (sum_ok A c l _ HR.out hc HB.out (by omega)).mono ?_
  rintro e w1 ⟨rfl, n, rfl⟩
  go_wp2_with (at_builtin; (refine wp_append .u8 5 _ w.heap.size (.int .u8 0) 1 rfl _ _ 22 rfl Try.underlying22 (by kernel_rfl) rfl (.slice none 0 0) [] _ _ (l.take (l.length - 2)) (l.length - 2) ?_ rfl rfl (Oi.nil .u8 5 _ _) ((HR.out.take _).drewN n) ?_ ?_ ?_ ?_))
  · rw [List.length_take]; omega
  · unfold maxLen; simp; omega
  · simp; omega
  · exact Nat.le_refl _
  intro v4 w4 ho hg _
  have HW4 := Lib.hid (Below.of_owned (v := .slice none 0 0) (below_drewN_ (Below.refl w.heap.size w) n) (Nat.le_refl _) hg (fun q hq => by simp [Value.ownBlock] at hq))
  have HO4 := Lib.hid ho
  clear ho hg
  go_wp2_with fail
  go_ret2
  exact ⟨v4, rfl, HO4.out, HW4.out⟩

theorem g9 : goes 65535 [49, 50, 51, 52, 53, 54, 55, 56, 57] = 10673 := by decide +kernel
theorem bytes_dec {l : List Int} (h : l.all (fun x => decide (0 ≤ x ∧ x ≤ 255)) = true) : Bytes l := fun x hx => of_decide_eq_true (List.all_eq_true.1 h x hx)

theorem L7 : ∃ L, L = [7] ++ two (goes 65535 [7]) ∧ goes 65535 L = 0 ∧ Bytes L ∧ L.length = 3 ∧ L.take (3 - 2) = [7] := by
  have h0 := seal_zero 65535 [7]
  have h1 : Bytes ([7] ++ two (goes 65535 [7])) := (bytes_dec rfl).app (Bytes.two (goes_bd _ _))
  generalize goes 65535 [7] = s at h0 h1
  exact ⟨_, rfl, h0, h1, rfl, rfl⟩
theorem next {w w1 w2 : World} (h : Below w.heap.size w w1) (h2 : Below w1.heap.size w1 w2) : Below w.heap.size w w2 := h.trans (h2.mono h.size)
theorem drawn {w w1 w2 : World} (h : Below w.heap.size w w1) (h2 : Drawn0 w1 w2) : Below w.heap.size w w2 := next h h2.below

set_option maxHeartbeats 400000 in
theorem alive_ok (w : World) : Calls Try.prog 8 #[] w fun e w' => e = .returned (.bool true) ∧ Below w.heap.size w w' := by
  have kc := fun (w : World) (C : Array Value) (n c : Nat) => Lib.run_convert_bytes_const (P := Try.prog) w 22 5 C n c Try.underlying22 Try.underlying5
  go_enter Try.func8, Try.ntmps8
  go_wp2_with fail
  refine (seal_ok (some ⟨w.heap.size, 0, none⟩) 1 [7] _ (Ri.lit .u8 5 w [7] (by unfold maxLen; simp) _ rfl) (Nat.le_refl _) (bytes_dec rfl) (by simp)).mono ?_
  rintro e w1 ⟨v, rfl, ho, hb⟩
  have hb1 : Below w.heap.size w w1 := next ((Below.refl _ _).alloc (Nat.le_refl _) _) hb
  obtain ⟨L, hL, h0, h1, h2, h3⟩ := L7
  rw [← hL] at ho
  clear hL
  obtain ⟨A, c, rfl, hc, hr⟩ := ho.ri
  have HB := Lib.hid hb1
  have HR := Lib.hid hr
  have HY := Lib.hid h1
  have HL := Lib.hid h3
  have HZ := Lib.hid h0
  have H2 := Lib.hid h2
  clear hb1 hr h1 h3 h0 hb ho h2
  go_wp2_with fail
  refine (open_yes A c L w1 HR.out hc HY.out (by rw [H2.out]; decide) (by rw [H2.out]; decide) HZ.out).mono ?_
  rintro e w2 ⟨v, rfl, ho, hb⟩
  rw [H2.out, HL.out] at ho
  have HB2 := Lib.hid (next HB.out hb)
  clear HR HY HL HZ HB hb
  obtain ⟨he, _⟩ | ⟨g, c2, rfl, _, hg, _, _, hcell, _⟩ := ho.form
  · subst he
    have := ho.1
    simp at this
    rcases ho.2 with ⟨_, h⟩ | ⟨_, _, _, h, _⟩
    · simp at h
    · cases h
  have hce : w2.cell? ⟨g, 0, none⟩ = some (.int .u8 7) := hcell 0 7 rfl
  have HC := Lib.hid hce
  clear ho hcell hce
  go_wp2_with fail
  refine (sum_ok (some ⟨w2.heap.size, 0, none⟩) 9 [49, 50, 51, 52, 53, 54, 55, 56, 57] _ (Ri.lit .u8 5 w2 _ (by unfold maxLen; simp) _ rfl) (Nat.le_refl _) (bytes_dec rfl) (by simp)).mono ?_
  rintro e w3 ⟨rfl, n, rfl⟩
  rw [g9]
  have hce : ((w2.alloc (.cells #[.int .u8 49, .int .u8 50, .int .u8 51, .int .u8 52, .int .u8 53, .int .u8 54, .int .u8 55, .int .u8 56, .int .u8 57] 5 (9, 10))).drewN n).cell? ⟨g, 0, none⟩ = some (.int .u8 7) := (World.cell?_alloc_lt w2 _ _ hg).trans HC.out
  have HB3 := Lib.hid (below_drewN_ (HB2.out.alloc HB2.out.size (.cells #[.int .u8 49, .int .u8 50, .int .u8 51, .int .u8 52, .int .u8 53, .int .u8 54, .int .u8 55, .int .u8 56, .int .u8 57] 5 (9, 10))) n)
  have HC3 := Lib.hid hce
  clear hce
  generalize hw3 : (w2.alloc (.cells #[.int .u8 49, .int .u8 50, .int .u8 51, .int .u8 52, .int .u8 53, .int .u8 54, .int .u8 55, .int .u8 56, .int .u8 57] 5 (9, 10))).drewN n = w3
  simp only [List.map_cons, List.map_nil]
  rw [hw3] at HB3 HC3 ⊢
  clear hw3
  have hce := HC3.out
  go_wp2
  go_ret
  exact ⟨rfl, HB3.out⟩
end Go.Proofs.Ytobhjkephinhiaa.Seal
