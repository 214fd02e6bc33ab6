/- The six kinds of frames: what their fields are; blank, made (the many cases are written by a small program). -/
import Derived.Test.YtjkngcpmcmffmaaGn
import Derived.Shelf.Abstract
namespace Go.Proofs.Ytjkngcpmcmffmaa.Kd
open Go.RowKit Go.Proofs.Ytjkngcpmcmffmaa.Bk Go.Proofs.Ytjkngcpmcmffmaa.Rw Go.Proofs.Ytjkngcpmcmffmaa.Ow Go.Proofs.Ytjkngcpmcmffmaa.Kp Go.Proofs.Ytjkngcpmcmffmaa.Sq Go.Proofs.Ytjkngcpmcmffmaa.Fr Go.Proofs.Ytjkngcpmcmffmaa.Pn Go.Proofs.Ytjkngcpmcmffmaa.Crc Go.Proofs.Ytjkngcpmcmffmaa.Cr Go.Proofs.Ytjkngcpmcmffmaa.Gn
/-- In how many bytes each field of a kind stands, and the greatest it may be. -/
def spec : Nat → List (Int × Int)
  | 1 => [(1, 63), (1, 63), (2, 65535), (2, 65535), (1, 63), (8, 1125899906842624)]
  | 2 => [(1, 63), (1, 63)]
  | 3 => [(1, 63)]
  | 4 => [(1, 63), (1, 63), (8, 1125899906842624)]
  | 5 => [(1, 63), (1, 63), (8, 1125899906842624), (8, 1125899906842624), (8, 1125899906842624), (1, 63), (2, 65535), (1, 63)]
  | 6 => [(1, 63), (2, 65535), (1, 63), (2, 65535), (8, 1125899906842624), (8, 1125899906842624)]
  | _ => []
def tid : Nat → Nat
  | 1 => 75
  | 2 => 77
  | 3 => 51
  | 4 => 79
  | 5 => 81
  | 6 => 83
  | _ => 0
def fid : Nat → Nat
  | 1 => 59
  | 2 => 64
  | 3 => 56
  | 4 => 66
  | 5 => 68
  | 6 => 70
  | _ => 0
def cellf (s : Int × Int) (n : Int) : Value := if s.1 = 2 then .int .u16 n else .int .i64 n
/-- A frame's cells. -/
def vals (k : Nat) (ns : List Int) : Value := .agg (List.zipWith cellf (spec k) ns).toArray
def flds (k : Nat) (ns : List Int) : List Fld := List.zipWith (fun s n => ⟨s.1, n, s.2⟩) (spec k) ns
/-- A frame of a kind. -/
def frm (k : Nat) (ns : List Int) : Value := .iface (tid k) (vals k ns)
/-- As many numbers as fields; the short ones short. -/
def Nk (k : Nat) (ns : List Int) : Prop := ns.length = (spec k).length ∧ ∀ f ∈ flds k ns, f.size = 2 → 0 ≤ f.n ∧ f.n ≤ 65535
theorem cut_1 {ns : List Int} (h : ns.length = 6) : ∃ a0 a1 a2 a3 a4 a5, ns = [a0, a1, a2, a3, a4, a5] := by
  match ns, h with
  | [a0, a1, a2, a3, a4, a5], _ => exact ⟨_, _, _, _, _, _, rfl⟩
theorem cut_2 {ns : List Int} (h : ns.length = 2) : ∃ a0 a1, ns = [a0, a1] := by
  match ns, h with
  | [a0, a1], _ => exact ⟨_, _, rfl⟩
theorem cut_3 {ns : List Int} (h : ns.length = 1) : ∃ a0, ns = [a0] := by
  match ns, h with
  | [a0], _ => exact ⟨_, rfl⟩
theorem cut_4 {ns : List Int} (h : ns.length = 3) : ∃ a0 a1 a2, ns = [a0, a1, a2] := by
  match ns, h with
  | [a0, a1, a2], _ => exact ⟨_, _, _, rfl⟩
theorem cut_5 {ns : List Int} (h : ns.length = 8) : ∃ a0 a1 a2 a3 a4 a5 a6 a7, ns = [a0, a1, a2, a3, a4, a5, a6, a7] := by
  match ns, h with
  | [a0, a1, a2, a3, a4, a5, a6, a7], _ => exact ⟨_, _, _, _, _, _, _, _, rfl⟩
theorem cut_6 {ns : List Int} (h : ns.length = 6) : ∃ a0 a1 a2 a3 a4 a5, ns = [a0, a1, a2, a3, a4, a5] := by
  match ns, h with
  | [a0, a1, a2, a3, a4, a5], _ => exact ⟨_, _, _, _, _, _, rfl⟩
/-- Each kind by itself. -/
theorem kn_of {k : Nat} (hk : 1 ≤ k ∧ k ≤ 6) {ns : List Int} (h : Nk k ns) : Kn k (tid k) (fid k) (vals k ns) (flds k ns) := by
  rcases (by omega : k = 1 ∨ k = 2 ∨ k = 3 ∨ k = 4 ∨ k = 5 ∨ k = 6) with rfl | rfl | rfl | rfl | rfl | rfl
  · obtain ⟨a0, a1, a2, a3, a4, a5, rfl⟩ := cut_1 h.1
    have s2 : 0 ≤ a2 ∧ a2 ≤ 65535 := h.2 ⟨2, a2, 65535⟩ (by simp [flds, spec]) rfl
    have s3 : 0 ≤ a3 ∧ a3 ≤ 65535 := h.2 ⟨2, a3, 65535⟩ (by simp [flds, spec]) rfl
    exact ⟨kind_sync _, fun _ => by kernel_rfl, fun _ => by kernel_rfl, sync_fields a0 a1 a2 a3 a4 a5 s2 s3, by simp [flds, spec], by omega, fun f hf => by simp [flds, spec] at hf; rcases hf with rfl | rfl | rfl | rfl | rfl | rfl <;> exact ⟨_, rfl, by decide⟩⟩
  · obtain ⟨a0, a1, rfl⟩ := cut_2 h.1
    exact ⟨kind_find _, fun _ => by kernel_rfl, fun _ => by kernel_rfl, find_fields a0 a1 , by simp [flds, spec], by omega, fun f hf => by simp [flds, spec] at hf; rcases hf with rfl | rfl <;> exact ⟨_, rfl, by decide⟩⟩
  · obtain ⟨a0, rfl⟩ := cut_3 h.1
    exact ⟨kind_want _, fun _ => by kernel_rfl, fun _ => by kernel_rfl, want_fields a0 , by simp [flds, spec], by omega, fun f hf => by simp [flds, spec] at hf; rcases hf with rfl <;> exact ⟨_, rfl, by decide⟩⟩
  · obtain ⟨a0, a1, a2, rfl⟩ := cut_4 h.1
    exact ⟨kind_pulse _, fun _ => by kernel_rfl, fun _ => by kernel_rfl, pulse_fields a0 a1 a2 , by simp [flds, spec], by omega, fun f hf => by simp [flds, spec] at hf; rcases hf with rfl | rfl | rfl <;> exact ⟨_, rfl, by decide⟩⟩
  · obtain ⟨a0, a1, a2, a3, a4, a5, a6, a7, rfl⟩ := cut_5 h.1
    have s6 : 0 ≤ a6 ∧ a6 ≤ 65535 := h.2 ⟨2, a6, 65535⟩ (by simp [flds, spec]) rfl
    exact ⟨kind_reply _, fun _ => by kernel_rfl, fun _ => by kernel_rfl, reply_fields a0 a1 a2 a3 a4 a5 a6 a7 s6, by simp [flds, spec], by omega, fun f hf => by simp [flds, spec] at hf; rcases hf with rfl | rfl | rfl | rfl | rfl | rfl | rfl | rfl <;> exact ⟨_, rfl, by decide⟩⟩
  · obtain ⟨a0, a1, a2, a3, a4, a5, rfl⟩ := cut_6 h.1
    have s1 : 0 ≤ a1 ∧ a1 ≤ 65535 := h.2 ⟨2, a1, 65535⟩ (by simp [flds, spec]) rfl
    have s3 : 0 ≤ a3 ∧ a3 ≤ 65535 := h.2 ⟨2, a3, 65535⟩ (by simp [flds, spec]) rfl
    exact ⟨kind_anchor _, fun _ => by kernel_rfl, fun _ => by kernel_rfl, anchor_fields a0 a1 a2 a3 a4 a5 s1 s3, by simp [flds, spec], by omega, fun f hf => by simp [flds, spec] at hf; rcases hf with rfl | rfl | rfl | rfl | rfl | rfl <;> exact ⟨_, rfl, by decide⟩⟩
theorem blank_yes {k : Nat} (hk : 1 ≤ k ∧ k ≤ 6) (w : World) : Calls Try.prog 22 #[.int .u64 k] w fun e w' => e = .returned (frm k (List.replicate (spec k).length 0)) ∧ w = w' := by
  rcases (by omega : k = 1 ∨ k = 2 ∨ k = 3 ∨ k = 4 ∨ k = 5 ∨ k = 6) with rfl | rfl | rfl | rfl | rfl | rfl
  all_goals
    go_enter Try.func22, Try.ntmps22
    go_wp2
    go_ret
    exact ⟨rfl, rfl⟩
theorem blank_no {k : Int} (hk : ¬ (1 ≤ k ∧ k ≤ 6)) (w : World) : Calls Try.prog 22 #[.int .u64 k] w fun e w' => e = .returned .nilIface ∧ w = w' := by
  have q1 : (k == 1) = false := by simp; omega
  have q2 : (k == 2) = false := by simp; omega
  have q3 : (k == 3) = false := by simp; omega
  have q4 : (k == 4) = false := by simp; omega
  have q5 : (k == 5) = false := by simp; omega
  have q6 : (k == 6) = false := by simp; omega
  go_enter Try.func22, Try.ntmps22
  go_wp2
  go_ret
  exact ⟨rfl, rfl⟩
/-- What made makes of numbers. -/
def mkf (s : Int × Int) (m : Int) : Int := if s.1 = 2 then IntKind.u16.wrap m else wrap64 m
def mk (k : Nat) (ms : List Int) : List Int := List.zipWith mkf (spec k) ms
theorem at_ok (A : Option Addr) (N c i B : Nat) (I m : Int) (hI : I = i) (w : World) (hB : w.cell? ⟨B, 0, none⟩ = some (.slice A N c)) (hi : i < N) (_hN : N ≤ 8) (hm : ∃ ad, A = some ad ∧ w.cell? (ad.add i) = some (.int .u64 m)) :
    Calls Try.prog 36 #[.int .i64 I, .pointer (some ⟨B, 0, none⟩)] w fun e w' => e = .returned (.int .i64 (wrap64 m)) ∧ w = w' := by
  obtain ⟨ad, rfl, hc⟩ := hm
  subst hI
  have n1 : (i : Int) < (N : Int) := by omega
  go_enter Try.func36, Try.ntmps36
  go_wp2
  go_ret
  exact ⟨rfl, rfl⟩
theorem sh_ok (A : Option Addr) (N c i B : Nat) (I m : Int) (hI : I = i) (w : World) (hB : w.cell? ⟨B, 0, none⟩ = some (.slice A N c)) (hi : i < N) (_hN : N ≤ 8) (hm : ∃ ad, A = some ad ∧ w.cell? (ad.add i) = some (.int .u64 m)) :
    Calls Try.prog 37 #[.int .i64 I, .pointer (some ⟨B, 0, none⟩)] w fun e w' => e = .returned (.int .u16 (IntKind.u16.wrap m)) ∧ w = w' := by
  obtain ⟨ad, rfl, hc⟩ := hm
  subst hI
  have n1 : (i : Int) < (N : Int) := by omega
  go_enter Try.func37, Try.ntmps37
  go_wp2
  go_ret
  exact ⟨rfl, rfl⟩
theorem row_at {w : World} {A : Option Addr} {ms : List Int} (h : Ri .u64 w A ms) {i : Nat} (hi : i < ms.length) (o : Obj) : ∃ ad, A = some ad ∧ (w.alloc o).cell? (ad.add i) = some (.int .u64 (ms.getD i 0)) := by
  obtain ⟨ad, rfl, _, hc⟩ := (h.alloc o).at_ hi
  exact ⟨ad, rfl, hc⟩
set_option maxHeartbeats 2000000 in
theorem made_sync (A : Option Addr) (c : Nat) (m0 m1 m2 m3 m4 m5 : Int) (v : Value) (w : World) (hR : Ri .u64 w A [m0, m1, m2, m3, m4, m5]) : Calls Try.prog 25 #[.iface 75 v, .slice A 6 c] w fun e w' => e = .returned (.iface 75 (.agg #[.int .i64 (wrap64 m0), .int .i64 (wrap64 m1), .int .u16 (IntKind.u16.wrap m2), .int .u16 (IntKind.u16.wrap m3), .int .i64 (wrap64 m4), .int .i64 (wrap64 m5)])) ∧ Below w.heap.size w w' := by
  have hB : (w.alloc (.cells #[.slice A 6 c] 62)).cell? ⟨w.heap.size, 0, none⟩ = some (.slice A 6 c) := (Blk.new w 62 _).cell 0
  have HB := Lib.hid ((Below.refl w.heap.size w).alloc (Nat.le_refl _) (.cells #[.slice A 6 c] 62))
  have C0 := Lib.hid (at_ok A 6 c 0 w.heap.size 0 m0 rfl _ hB (by decide) (by decide) (row_at hR (i := 0) (by simp) _))
  have C1 := Lib.hid (at_ok A 6 c 1 w.heap.size 1 m1 rfl _ hB (by decide) (by decide) (row_at hR (i := 1) (by simp) _))
  have C2 := Lib.hid (sh_ok A 6 c 2 w.heap.size 2 m2 rfl _ hB (by decide) (by decide) (row_at hR (i := 2) (by simp) _))
  have C3 := Lib.hid (sh_ok A 6 c 3 w.heap.size 3 m3 rfl _ hB (by decide) (by decide) (row_at hR (i := 3) (by simp) _))
  have C4 := Lib.hid (at_ok A 6 c 4 w.heap.size 4 m4 rfl _ hB (by decide) (by decide) (row_at hR (i := 4) (by simp) _))
  have C5 := Lib.hid (at_ok A 6 c 5 w.heap.size 5 m5 rfl _ hB (by decide) (by decide) (row_at hR (i := 5) (by simp) _))
  have t0 := as_sync_sync
  clear hR hB
  go_enter Try.func25, Try.ntmps25
  go_wp2_with (first
    | (go_at_call 36; (with_reducible refine Calls.mono C0.out ?_); rintro e w1 ⟨rfl, rfl⟩)
    | (go_at_call 36; (with_reducible refine Calls.mono C1.out ?_); rintro e w1 ⟨rfl, rfl⟩)
    | (go_at_call 37; (with_reducible refine Calls.mono C2.out ?_); rintro e w1 ⟨rfl, rfl⟩)
    | (go_at_call 37; (with_reducible refine Calls.mono C3.out ?_); rintro e w1 ⟨rfl, rfl⟩)
    | (go_at_call 36; (with_reducible refine Calls.mono C4.out ?_); rintro e w1 ⟨rfl, rfl⟩)
    | (go_at_call 36; (with_reducible refine Calls.mono C5.out ?_); rintro e w1 ⟨rfl, rfl⟩))
  go_ret
  exact ⟨rfl, HB.out⟩
set_option maxHeartbeats 2000000 in
theorem made_find (A : Option Addr) (c : Nat) (m0 m1 : Int) (v : Value) (w : World) (hR : Ri .u64 w A [m0, m1]) : Calls Try.prog 25 #[.iface 77 v, .slice A 2 c] w fun e w' => e = .returned (.iface 77 (.agg #[.int .i64 (wrap64 m0), .int .i64 (wrap64 m1)])) ∧ Below w.heap.size w w' := by
  have hB : (w.alloc (.cells #[.slice A 2 c] 62)).cell? ⟨w.heap.size, 0, none⟩ = some (.slice A 2 c) := (Blk.new w 62 _).cell 0
  have HB := Lib.hid ((Below.refl w.heap.size w).alloc (Nat.le_refl _) (.cells #[.slice A 2 c] 62))
  have C0 := Lib.hid (at_ok A 2 c 0 w.heap.size 0 m0 rfl _ hB (by decide) (by decide) (row_at hR (i := 0) (by simp) _))
  have C1 := Lib.hid (at_ok A 2 c 1 w.heap.size 1 m1 rfl _ hB (by decide) (by decide) (row_at hR (i := 1) (by simp) _))
  have t0 := as_find_sync
  have t1 := as_find_find
  clear hR hB
  go_enter Try.func25, Try.ntmps25
  go_wp2_with (first
    | (go_at_call 36; (with_reducible refine Calls.mono C0.out ?_); rintro e w1 ⟨rfl, rfl⟩)
    | (go_at_call 36; (with_reducible refine Calls.mono C1.out ?_); rintro e w1 ⟨rfl, rfl⟩))
  go_ret
  exact ⟨rfl, HB.out⟩
set_option maxHeartbeats 2000000 in
theorem made_want (A : Option Addr) (c : Nat) (m0 : Int) (v : Value) (w : World) (hR : Ri .u64 w A [m0]) : Calls Try.prog 25 #[.iface 51 v, .slice A 1 c] w fun e w' => e = .returned (.iface 51 (.agg #[.int .i64 (wrap64 m0)])) ∧ Below w.heap.size w w' := by
  have hB : (w.alloc (.cells #[.slice A 1 c] 62)).cell? ⟨w.heap.size, 0, none⟩ = some (.slice A 1 c) := (Blk.new w 62 _).cell 0
  have HB := Lib.hid ((Below.refl w.heap.size w).alloc (Nat.le_refl _) (.cells #[.slice A 1 c] 62))
  have C0 := Lib.hid (at_ok A 1 c 0 w.heap.size 0 m0 rfl _ hB (by decide) (by decide) (row_at hR (i := 0) (by simp) _))
  have t0 := as_want_sync
  have t1 := as_want_find
  have t2 := as_want_want
  clear hR hB
  go_enter Try.func25, Try.ntmps25
  go_wp2_with (first
    | (go_at_call 36; (with_reducible refine Calls.mono C0.out ?_); rintro e w1 ⟨rfl, rfl⟩))
  go_ret
  exact ⟨rfl, HB.out⟩
set_option maxHeartbeats 2000000 in
theorem made_pulse (A : Option Addr) (c : Nat) (m0 m1 m2 : Int) (v : Value) (w : World) (hR : Ri .u64 w A [m0, m1, m2]) : Calls Try.prog 25 #[.iface 79 v, .slice A 3 c] w fun e w' => e = .returned (.iface 79 (.agg #[.int .i64 (wrap64 m0), .int .i64 (wrap64 m1), .int .i64 (wrap64 m2)])) ∧ Below w.heap.size w w' := by
  have hB : (w.alloc (.cells #[.slice A 3 c] 62)).cell? ⟨w.heap.size, 0, none⟩ = some (.slice A 3 c) := (Blk.new w 62 _).cell 0
  have HB := Lib.hid ((Below.refl w.heap.size w).alloc (Nat.le_refl _) (.cells #[.slice A 3 c] 62))
  have C0 := Lib.hid (at_ok A 3 c 0 w.heap.size 0 m0 rfl _ hB (by decide) (by decide) (row_at hR (i := 0) (by simp) _))
  have C1 := Lib.hid (at_ok A 3 c 1 w.heap.size 1 m1 rfl _ hB (by decide) (by decide) (row_at hR (i := 1) (by simp) _))
  have C2 := Lib.hid (at_ok A 3 c 2 w.heap.size 2 m2 rfl _ hB (by decide) (by decide) (row_at hR (i := 2) (by simp) _))
  have t0 := as_pulse_sync
  have t1 := as_pulse_find
  have t2 := as_pulse_want
  have t3 := as_pulse_pulse
  clear hR hB
  go_enter Try.func25, Try.ntmps25
  go_wp2_with (first
    | (go_at_call 36; (with_reducible refine Calls.mono C0.out ?_); rintro e w1 ⟨rfl, rfl⟩)
    | (go_at_call 36; (with_reducible refine Calls.mono C1.out ?_); rintro e w1 ⟨rfl, rfl⟩)
    | (go_at_call 36; (with_reducible refine Calls.mono C2.out ?_); rintro e w1 ⟨rfl, rfl⟩))
  go_ret
  exact ⟨rfl, HB.out⟩
set_option maxHeartbeats 2000000 in
theorem made_reply (A : Option Addr) (c : Nat) (m0 m1 m2 m3 m4 m5 m6 m7 : Int) (v : Value) (w : World) (hR : Ri .u64 w A [m0, m1, m2, m3, m4, m5, m6, m7]) : Calls Try.prog 25 #[.iface 81 v, .slice A 8 c] w fun e w' => e = .returned (.iface 81 (.agg #[.int .i64 (wrap64 m0), .int .i64 (wrap64 m1), .int .i64 (wrap64 m2), .int .i64 (wrap64 m3), .int .i64 (wrap64 m4), .int .i64 (wrap64 m5), .int .u16 (IntKind.u16.wrap m6), .int .i64 (wrap64 m7)])) ∧ Below w.heap.size w w' := by
  have hB : (w.alloc (.cells #[.slice A 8 c] 62)).cell? ⟨w.heap.size, 0, none⟩ = some (.slice A 8 c) := (Blk.new w 62 _).cell 0
  have HB := Lib.hid ((Below.refl w.heap.size w).alloc (Nat.le_refl _) (.cells #[.slice A 8 c] 62))
  have C0 := Lib.hid (at_ok A 8 c 0 w.heap.size 0 m0 rfl _ hB (by decide) (by decide) (row_at hR (i := 0) (by simp) _))
  have C1 := Lib.hid (at_ok A 8 c 1 w.heap.size 1 m1 rfl _ hB (by decide) (by decide) (row_at hR (i := 1) (by simp) _))
  have C2 := Lib.hid (at_ok A 8 c 2 w.heap.size 2 m2 rfl _ hB (by decide) (by decide) (row_at hR (i := 2) (by simp) _))
  have C3 := Lib.hid (at_ok A 8 c 3 w.heap.size 3 m3 rfl _ hB (by decide) (by decide) (row_at hR (i := 3) (by simp) _))
  have C4 := Lib.hid (at_ok A 8 c 4 w.heap.size 4 m4 rfl _ hB (by decide) (by decide) (row_at hR (i := 4) (by simp) _))
  have C5 := Lib.hid (at_ok A 8 c 5 w.heap.size 5 m5 rfl _ hB (by decide) (by decide) (row_at hR (i := 5) (by simp) _))
  have C6 := Lib.hid (sh_ok A 8 c 6 w.heap.size 6 m6 rfl _ hB (by decide) (by decide) (row_at hR (i := 6) (by simp) _))
  have C7 := Lib.hid (at_ok A 8 c 7 w.heap.size 7 m7 rfl _ hB (by decide) (by decide) (row_at hR (i := 7) (by simp) _))
  have t0 := as_reply_sync
  have t1 := as_reply_find
  have t2 := as_reply_want
  have t3 := as_reply_pulse
  have t4 := as_reply_reply
  clear hR hB
  go_enter Try.func25, Try.ntmps25
  go_wp2_with (first
    | (go_at_call 36; (with_reducible refine Calls.mono C0.out ?_); rintro e w1 ⟨rfl, rfl⟩)
    | (go_at_call 36; (with_reducible refine Calls.mono C1.out ?_); rintro e w1 ⟨rfl, rfl⟩)
    | (go_at_call 36; (with_reducible refine Calls.mono C2.out ?_); rintro e w1 ⟨rfl, rfl⟩)
    | (go_at_call 36; (with_reducible refine Calls.mono C3.out ?_); rintro e w1 ⟨rfl, rfl⟩)
    | (go_at_call 36; (with_reducible refine Calls.mono C4.out ?_); rintro e w1 ⟨rfl, rfl⟩)
    | (go_at_call 36; (with_reducible refine Calls.mono C5.out ?_); rintro e w1 ⟨rfl, rfl⟩)
    | (go_at_call 37; (with_reducible refine Calls.mono C6.out ?_); rintro e w1 ⟨rfl, rfl⟩)
    | (go_at_call 36; (with_reducible refine Calls.mono C7.out ?_); rintro e w1 ⟨rfl, rfl⟩))
  go_ret
  exact ⟨rfl, HB.out⟩
set_option maxHeartbeats 2000000 in
theorem made_anchor (A : Option Addr) (c : Nat) (m0 m1 m2 m3 m4 m5 : Int) (v : Value) (w : World) (hR : Ri .u64 w A [m0, m1, m2, m3, m4, m5]) : Calls Try.prog 25 #[.iface 83 v, .slice A 6 c] w fun e w' => e = .returned (.iface 83 (.agg #[.int .i64 (wrap64 m0), .int .u16 (IntKind.u16.wrap m1), .int .i64 (wrap64 m2), .int .u16 (IntKind.u16.wrap m3), .int .i64 (wrap64 m4), .int .i64 (wrap64 m5)])) ∧ Below w.heap.size w w' := by
  have hB : (w.alloc (.cells #[.slice A 6 c] 62)).cell? ⟨w.heap.size, 0, none⟩ = some (.slice A 6 c) := (Blk.new w 62 _).cell 0
  have HB := Lib.hid ((Below.refl w.heap.size w).alloc (Nat.le_refl _) (.cells #[.slice A 6 c] 62))
  have C0 := Lib.hid (at_ok A 6 c 0 w.heap.size 0 m0 rfl _ hB (by decide) (by decide) (row_at hR (i := 0) (by simp) _))
  have C1 := Lib.hid (sh_ok A 6 c 1 w.heap.size 1 m1 rfl _ hB (by decide) (by decide) (row_at hR (i := 1) (by simp) _))
  have C2 := Lib.hid (at_ok A 6 c 2 w.heap.size 2 m2 rfl _ hB (by decide) (by decide) (row_at hR (i := 2) (by simp) _))
  have C3 := Lib.hid (sh_ok A 6 c 3 w.heap.size 3 m3 rfl _ hB (by decide) (by decide) (row_at hR (i := 3) (by simp) _))
  have C4 := Lib.hid (at_ok A 6 c 4 w.heap.size 4 m4 rfl _ hB (by decide) (by decide) (row_at hR (i := 4) (by simp) _))
  have C5 := Lib.hid (at_ok A 6 c 5 w.heap.size 5 m5 rfl _ hB (by decide) (by decide) (row_at hR (i := 5) (by simp) _))
  have t0 := as_anchor_sync
  have t1 := as_anchor_find
  have t2 := as_anchor_want
  have t3 := as_anchor_pulse
  have t4 := as_anchor_reply
  clear hR hB
  go_enter Try.func25, Try.ntmps25
  go_wp2_with (first
    | (go_at_call 36; (with_reducible refine Calls.mono C0.out ?_); rintro e w1 ⟨rfl, rfl⟩)
    | (go_at_call 37; (with_reducible refine Calls.mono C1.out ?_); rintro e w1 ⟨rfl, rfl⟩)
    | (go_at_call 36; (with_reducible refine Calls.mono C2.out ?_); rintro e w1 ⟨rfl, rfl⟩)
    | (go_at_call 37; (with_reducible refine Calls.mono C3.out ?_); rintro e w1 ⟨rfl, rfl⟩)
    | (go_at_call 36; (with_reducible refine Calls.mono C4.out ?_); rintro e w1 ⟨rfl, rfl⟩)
    | (go_at_call 36; (with_reducible refine Calls.mono C5.out ?_); rintro e w1 ⟨rfl, rfl⟩))
  go_ret
  exact ⟨rfl, HB.out⟩
theorem made_ok {k : Nat} (hk : 1 ≤ k ∧ k ≤ 6) (A : Option Addr) (c : Nat) (ms : List Int) (hl : ms.length = (spec k).length) (v : Value) (w : World) (hR : Ri .u64 w A ms) : Calls Try.prog 25 #[.iface (tid k) v, .slice A ms.length c] w fun e w' => e = .returned (frm k (mk k ms)) ∧ Below w.heap.size w w' := by
  rcases (by omega : k = 1 ∨ k = 2 ∨ k = 3 ∨ k = 4 ∨ k = 5 ∨ k = 6) with rfl | rfl | rfl | rfl | rfl | rfl
  · obtain ⟨m0, m1, m2, m3, m4, m5, rfl⟩ := cut_1 hl
    exact made_sync A c _ _ _ _ _ _ v w hR
  · obtain ⟨m0, m1, rfl⟩ := cut_2 hl
    exact made_find A c _ _ v w hR
  · obtain ⟨m0, rfl⟩ := cut_3 hl
    exact made_want A c _ v w hR
  · obtain ⟨m0, m1, m2, rfl⟩ := cut_4 hl
    exact made_pulse A c _ _ _ v w hR
  · obtain ⟨m0, m1, m2, m3, m4, m5, m6, m7, rfl⟩ := cut_5 hl
    exact made_reply A c _ _ _ _ _ _ _ _ v w hR
  · obtain ⟨m0, m1, m2, m3, m4, m5, rfl⟩ := cut_6 hl
    exact made_anchor A c _ _ _ _ _ _ v w hR
end Go.Proofs.Ytjkngcpmcmffmaa.Kd
