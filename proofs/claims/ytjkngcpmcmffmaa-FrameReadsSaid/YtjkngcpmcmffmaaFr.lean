/- The walks of frame's small functions, all six kinds (written by a small program: 05/genfr.py). -/
import Derived.Test.YtjkngcpmcmffmaaChecked
import Derived.Test.YtjkngcpmcmffmaaKp
import Derived.Test.YtjkngcpmcmffmaaSq
import Derived.Deep.QuietTactic
import Derived.BigQuiet
import Derived.BigRegion
import Derived.WalkLawsBesides
import Derived.WalkSpells
import Derived.IntWalk
import Derived.Lib.Hide
import Derived.Outline
import Derived.Deep.LoopGhost
namespace Go.Proofs.Ytjkngcpmcmffmaa.Fr
open Go.RowKit Go.Proofs.Ytjkngcpmcmffmaa.Bk Go.Proofs.Ytjkngcpmcmffmaa.Rw Go.Proofs.Ytjkngcpmcmffmaa.Ow Go.Proofs.Ytjkngcpmcmffmaa.Kp Go.Proofs.Ytjkngcpmcmffmaa.Sq
theorem node_ok (n : Int) (w : World) : Calls Try.prog 57 #[.int .i64 n] w fun e w' => e = .returned (.agg #[.int .i64 1, .int .i64 n, .int .i64 63]) ∧ Below w.heap.size w w' := by
  go_enter Try.func57, Try.ntmps57
  go_wp2
  exact bodyPost_ret (v := .agg #[.int .i64 1, .int .i64 n, .int .i64 63]) (by simp [results, Try.results57, go_sem]) rfl ⟨rfl, (Below.refl _ _).alloc (Nat.le_refl _) _⟩
theorem hops_ok (n : Int) (w : World) : Calls Try.prog 61 #[.int .i64 n] w fun e w' => e = .returned (.agg #[.int .i64 1, .int .i64 n, .int .i64 63]) ∧ Below w.heap.size w w' := by
  go_enter Try.func61, Try.ntmps61
  go_wp2
  exact bodyPost_ret (v := .agg #[.int .i64 1, .int .i64 n, .int .i64 63]) (by simp [results, Try.results61, go_sem]) rfl ⟨rfl, (Below.refl _ _).alloc (Nat.le_refl _) _⟩
theorem time_ok (n : Int) (w : World) : Calls Try.prog 62 #[.int .i64 n] w fun e w' => e = .returned (.agg #[.int .i64 8, .int .i64 n, .int .i64 1125899906842624]) ∧ Below w.heap.size w w' := by
  go_enter Try.func62, Try.ntmps62
  go_wp2
  exact bodyPost_ret (v := .agg #[.int .i64 8, .int .i64 n, .int .i64 1125899906842624]) (by simp [results, Try.results62, go_sem]) rfl ⟨rfl, (Below.refl _ _).alloc (Nat.le_refl _) _⟩
theorem short_ok (n : Int) (hn : 0 ≤ n ∧ n ≤ 65535) (w : World) : Calls Try.prog 60 #[.int .u16 n] w fun e w' => e = .returned (.agg #[.int .i64 2, .int .i64 n, .int .i64 65535]) ∧ Below w.heap.size w w' := by
  have hw : IntKind.i64.wrap n = n := by rw [IntKind.wrap_i64]; omega
  go_enter Try.func60, Try.ntmps60
  go_wp2
  exact bodyPost_ret (v := .agg #[.int .i64 2, .int .i64 n, .int .i64 65535]) (by simp [results, Try.results60, go_sem]) rfl ⟨rfl, (Below.refl _ _).alloc (Nat.le_refl _) _⟩
theorem as_sync_sync (v : Value) (w : World) : (Instr.typeAssert (.iface 75 v) 25 75 true).run Try.prog w = .ok (.tuple #[v, .bool true]) w := by kernel_rfl
theorem kind_sync (v : Value) (w : World) : Calls Try.prog 29 #[.iface 75 v] w fun e w' => e = .returned (.int .u8 1) ∧ w = w' := by
  have a0 := as_sync_sync
  go_enter Try.func29, Try.ntmps29
  go_wp2
  go_ret
  exact ⟨rfl, rfl⟩
theorem as_find_sync (v : Value) (w : World) : (Instr.typeAssert (.iface 77 v) 25 75 true).run Try.prog w = .ok (.tuple #[.agg #[.int .i64 0, .int .i64 0, .int .u16 0, .int .u16 0, .int .i64 0, .int .i64 0], .bool false]) w := by kernel_rfl
theorem as_find_find (v : Value) (w : World) : (Instr.typeAssert (.iface 77 v) 25 77 true).run Try.prog w = .ok (.tuple #[v, .bool true]) w := by kernel_rfl
theorem kind_find (v : Value) (w : World) : Calls Try.prog 29 #[.iface 77 v] w fun e w' => e = .returned (.int .u8 2) ∧ w = w' := by
  have a0 := as_find_sync
  have a1 := as_find_find
  go_enter Try.func29, Try.ntmps29
  go_wp2
  go_ret
  exact ⟨rfl, rfl⟩
theorem as_want_sync (v : Value) (w : World) : (Instr.typeAssert (.iface 51 v) 25 75 true).run Try.prog w = .ok (.tuple #[.agg #[.int .i64 0, .int .i64 0, .int .u16 0, .int .u16 0, .int .i64 0, .int .i64 0], .bool false]) w := by kernel_rfl
theorem as_want_find (v : Value) (w : World) : (Instr.typeAssert (.iface 51 v) 25 77 true).run Try.prog w = .ok (.tuple #[.agg #[.int .i64 0, .int .i64 0], .bool false]) w := by kernel_rfl
theorem as_want_want (v : Value) (w : World) : (Instr.typeAssert (.iface 51 v) 25 51 true).run Try.prog w = .ok (.tuple #[v, .bool true]) w := by kernel_rfl
theorem kind_want (v : Value) (w : World) : Calls Try.prog 29 #[.iface 51 v] w fun e w' => e = .returned (.int .u8 3) ∧ w = w' := by
  have a0 := as_want_sync
  have a1 := as_want_find
  have a2 := as_want_want
  go_enter Try.func29, Try.ntmps29
  go_wp2
  go_ret
  exact ⟨rfl, rfl⟩
theorem as_pulse_sync (v : Value) (w : World) : (Instr.typeAssert (.iface 79 v) 25 75 true).run Try.prog w = .ok (.tuple #[.agg #[.int .i64 0, .int .i64 0, .int .u16 0, .int .u16 0, .int .i64 0, .int .i64 0], .bool false]) w := by kernel_rfl
theorem as_pulse_find (v : Value) (w : World) : (Instr.typeAssert (.iface 79 v) 25 77 true).run Try.prog w = .ok (.tuple #[.agg #[.int .i64 0, .int .i64 0], .bool false]) w := by kernel_rfl
theorem as_pulse_want (v : Value) (w : World) : (Instr.typeAssert (.iface 79 v) 25 51 true).run Try.prog w = .ok (.tuple #[.agg #[.int .i64 0], .bool false]) w := by kernel_rfl
theorem as_pulse_pulse (v : Value) (w : World) : (Instr.typeAssert (.iface 79 v) 25 79 true).run Try.prog w = .ok (.tuple #[v, .bool true]) w := by kernel_rfl
theorem kind_pulse (v : Value) (w : World) : Calls Try.prog 29 #[.iface 79 v] w fun e w' => e = .returned (.int .u8 4) ∧ w = w' := by
  have a0 := as_pulse_sync
  have a1 := as_pulse_find
  have a2 := as_pulse_want
  have a3 := as_pulse_pulse
  go_enter Try.func29, Try.ntmps29
  go_wp2
  go_ret
  exact ⟨rfl, rfl⟩
theorem as_reply_sync (v : Value) (w : World) : (Instr.typeAssert (.iface 81 v) 25 75 true).run Try.prog w = .ok (.tuple #[.agg #[.int .i64 0, .int .i64 0, .int .u16 0, .int .u16 0, .int .i64 0, .int .i64 0], .bool false]) w := by kernel_rfl
theorem as_reply_find (v : Value) (w : World) : (Instr.typeAssert (.iface 81 v) 25 77 true).run Try.prog w = .ok (.tuple #[.agg #[.int .i64 0, .int .i64 0], .bool false]) w := by kernel_rfl
theorem as_reply_want (v : Value) (w : World) : (Instr.typeAssert (.iface 81 v) 25 51 true).run Try.prog w = .ok (.tuple #[.agg #[.int .i64 0], .bool false]) w := by kernel_rfl
theorem as_reply_pulse (v : Value) (w : World) : (Instr.typeAssert (.iface 81 v) 25 79 true).run Try.prog w = .ok (.tuple #[.agg #[.int .i64 0, .int .i64 0, .int .i64 0], .bool false]) w := by kernel_rfl
theorem as_reply_reply (v : Value) (w : World) : (Instr.typeAssert (.iface 81 v) 25 81 true).run Try.prog w = .ok (.tuple #[v, .bool true]) w := by kernel_rfl
theorem kind_reply (v : Value) (w : World) : Calls Try.prog 29 #[.iface 81 v] w fun e w' => e = .returned (.int .u8 5) ∧ w = w' := by
  have a0 := as_reply_sync
  have a1 := as_reply_find
  have a2 := as_reply_want
  have a3 := as_reply_pulse
  have a4 := as_reply_reply
  go_enter Try.func29, Try.ntmps29
  go_wp2
  go_ret
  exact ⟨rfl, rfl⟩
theorem as_anchor_sync (v : Value) (w : World) : (Instr.typeAssert (.iface 83 v) 25 75 true).run Try.prog w = .ok (.tuple #[.agg #[.int .i64 0, .int .i64 0, .int .u16 0, .int .u16 0, .int .i64 0, .int .i64 0], .bool false]) w := by kernel_rfl
theorem as_anchor_find (v : Value) (w : World) : (Instr.typeAssert (.iface 83 v) 25 77 true).run Try.prog w = .ok (.tuple #[.agg #[.int .i64 0, .int .i64 0], .bool false]) w := by kernel_rfl
theorem as_anchor_want (v : Value) (w : World) : (Instr.typeAssert (.iface 83 v) 25 51 true).run Try.prog w = .ok (.tuple #[.agg #[.int .i64 0], .bool false]) w := by kernel_rfl
theorem as_anchor_pulse (v : Value) (w : World) : (Instr.typeAssert (.iface 83 v) 25 79 true).run Try.prog w = .ok (.tuple #[.agg #[.int .i64 0, .int .i64 0, .int .i64 0], .bool false]) w := by kernel_rfl
theorem as_anchor_reply (v : Value) (w : World) : (Instr.typeAssert (.iface 83 v) 25 81 true).run Try.prog w = .ok (.tuple #[.agg #[.int .i64 0, .int .i64 0, .int .i64 0, .int .i64 0, .int .i64 0, .int .i64 0, .int .u16 0, .int .i64 0], .bool false]) w := by kernel_rfl
theorem as_anchor_anchor (v : Value) (w : World) : (Instr.typeAssert (.iface 83 v) 25 83 true).run Try.prog w = .ok (.tuple #[v, .bool true]) w := by kernel_rfl
theorem kind_anchor (v : Value) (w : World) : Calls Try.prog 29 #[.iface 83 v] w fun e w' => e = .returned (.int .u8 6) ∧ w = w' := by
  have a0 := as_anchor_sync
  have a1 := as_anchor_find
  have a2 := as_anchor_want
  have a3 := as_anchor_pulse
  have a4 := as_anchor_reply
  have a5 := as_anchor_anchor
  go_enter Try.func29, Try.ntmps29
  go_wp2
  go_ret
  exact ⟨rfl, rfl⟩
theorem as_nil_sync (w : World) : (Instr.typeAssert .nilIface 25 75 true).run Try.prog w = .ok (.tuple #[.agg #[.int .i64 0, .int .i64 0, .int .u16 0, .int .u16 0, .int .i64 0, .int .i64 0], .bool false]) w := by kernel_rfl
theorem as_nil_find (w : World) : (Instr.typeAssert .nilIface 25 77 true).run Try.prog w = .ok (.tuple #[.agg #[.int .i64 0, .int .i64 0], .bool false]) w := by kernel_rfl
theorem as_nil_want (w : World) : (Instr.typeAssert .nilIface 25 51 true).run Try.prog w = .ok (.tuple #[.agg #[.int .i64 0], .bool false]) w := by kernel_rfl
theorem as_nil_pulse (w : World) : (Instr.typeAssert .nilIface 25 79 true).run Try.prog w = .ok (.tuple #[.agg #[.int .i64 0, .int .i64 0, .int .i64 0], .bool false]) w := by kernel_rfl
theorem as_nil_reply (w : World) : (Instr.typeAssert .nilIface 25 81 true).run Try.prog w = .ok (.tuple #[.agg #[.int .i64 0, .int .i64 0, .int .i64 0, .int .i64 0, .int .i64 0, .int .i64 0, .int .u16 0, .int .i64 0], .bool false]) w := by kernel_rfl
theorem as_nil_anchor (w : World) : (Instr.typeAssert .nilIface 25 83 true).run Try.prog w = .ok (.tuple #[.agg #[.int .i64 0, .int .u16 0, .int .i64 0, .int .u16 0, .int .i64 0, .int .i64 0], .bool false]) w := by kernel_rfl
theorem kind_nil (w : World) : Calls Try.prog 29 #[.nilIface] w fun e w' => e = .returned (.int .u8 0) ∧ w = w' := by
  have a0 := as_nil_sync
  have a1 := as_nil_find
  have a2 := as_nil_want
  have a3 := as_nil_pulse
  have a4 := as_nil_reply
  have a5 := as_nil_anchor
  go_enter Try.func29, Try.ntmps29
  go_wp2
  go_ret
  exact ⟨rfl, rfl⟩
/-- A field's three numbers. -/
structure Fld where
  size : Int
  n : Int
  most : Int
def Fld.cs (f : Fld) : List Value := [.int .i64 f.size, .int .i64 f.n, .int .i64 f.most]
def Fld.ok (f : Fld) : Bool := decide (0 ≤ f.n ∧ f.n ≤ f.most)

theorem below_drew_ {B : Nat} {w w1 : World} (h : Below B w w1) : Below B w w1.drew := ⟨h.os, h.tape, h.output, h.size, h.block⟩
set_option maxRecDepth 100000 in
set_option maxHeartbeats 2000000 in
theorem sync_fields (a0 a1 a2 a3 a4 a5 : Int) (s2 : 0 ≤ a2 ∧ a2 ≤ 65535) (s3 : 0 ≤ a3 ∧ a3 ≤ 65535) (w : World) : Calls Try.prog 59 #[.agg #[.int .i64 a0, .int .i64 a1, .int .u16 a2, .int .u16 a3, .int .i64 a4, .int .i64 a5]] w fun e w' => ∃ g, e = .returned (.slice (some ⟨g, 0, none⟩) 6 6) ∧ w.heap.size ≤ g ∧ Blk w' g 66 (([⟨1, a0, 63⟩, ⟨1, a1, 63⟩, ⟨2, a2, 65535⟩, ⟨2, a3, 65535⟩, ⟨1, a4, 63⟩, ⟨8, a5, 1125899906842624⟩] : List Fld).flatMap Fld.cs).toArray ∧ Below w.heap.size w w' := by
  have hb : Below w.heap.size w (w.alloc (.cells #[.int .i64 a0, .int .i64 a1, .int .u16 a2, .int .u16 a3, .int .i64 a4, .int .i64 a5] 75)) := (Below.refl _ w).alloc (Nat.le_refl _) _
  have hx : Blk (w.alloc (.cells #[.int .i64 a0, .int .i64 a1, .int .u16 a2, .int .u16 a3, .int .i64 a4, .int .i64 a5] 75)) w.heap.size 75 #[.int .i64 a0, .int .i64 a1, .int .u16 a2, .int .u16 a3, .int .i64 a4, .int .i64 a5] := Blk.new w _ _
  have HB := Lib.hid hb
  have HX := Lib.hid hx
  clear hb hx
  go_enter Try.func59, Try.ntmps59
  go_wp2
  generalize hw1 : w.alloc (.cells #[.int .i64 a0, .int .i64 a1, .int .u16 a2, .int .u16 a3, .int .i64 a4, .int .i64 a5] 75) = w1 at HB HX ⊢
  clear hw1
  have HX := Lib.hid HX.out.drew
  have HB := Lib.hid (below_drew_ HB.out)
  refine wp_region_seq [(0, true), (1, true), (3, true), (4, true), (6, true), (7, true), (9, true), (10, true), (12, true), (13, true), (15, true), (16, true), (2, false), (5, false), (8, false), (11, false), (14, false), (17, false), (18, false), (19, true)] (fun w' => w'.cell? ⟨w.heap.size, 0, none⟩ = some (.int .i64 a0) ∧ w'.cell? ⟨w.heap.size, 1, none⟩ = some (.int .i64 a1) ∧ w'.cell? ⟨w.heap.size, 2, none⟩ = some (.int .u16 a2) ∧ w'.cell? ⟨w.heap.size, 3, none⟩ = some (.int .u16 a3) ∧ w'.cell? ⟨w.heap.size, 4, none⟩ = some (.int .i64 a4) ∧ w'.cell? ⟨w.heap.size, 5, none⟩ = some (.int .i64 a5)) (by kernel_rfl) (by kernel_rfl) ⟨HX.out.cell 0, HX.out.cell 1, HX.out.cell 2, HX.out.cell 3, HX.out.cell 4, HX.out.cell 5⟩ (fun hHeld => ?_)
  simp only [List.map_cons, List.map_nil, List.getElem?_toArray, List.getElem?_cons_zero, List.getElem?_cons_succ]
  repeat (first | (first | (refine seq_skip (by rfl) ?_; try simp only [Act.put, List.setIfInBounds_toArray, List.set_cons_zero, List.set_cons_succ]) | (refine seq_not (by rfl) (by assumption) ?_; try simp only [Act.put, List.setIfInBounds_toArray, List.set_cons_zero, List.set_cons_succ]) | (refine seq_take (v := ?_) (by rfl) ?_ ?_; rotate_left; (focus ((intro w hSw; (try dsimp only at hSw); go_simp; (try with_reducible rfl)); done)); try simp only [Act.put, List.setIfInBounds_toArray, List.set_cons_zero, List.set_cons_succ])) | (refine seq_do (fun K hK => ?_); go_simp; (first | (go_at_call 57; (with_reducible refine Calls.mono (node_ok _ _) ?_)) | (go_at_call 61; (with_reducible refine Calls.mono (hops_ok _ _) ?_)) | (go_at_call 62; (with_reducible refine Calls.mono (time_ok _ _) ?_)) | (go_at_call 60; (with_reducible refine Calls.mono (short_ok a2 s2 _) ?_)) | (go_at_call 60; (with_reducible refine Calls.mono (short_ok a3 s3 _) ?_))); rintro e w2 ⟨rfl, hb⟩; have HX := Lib.hid (HX.out.keeps hb); have HB := Lib.hid (HB.out.trans (hb.mono HB.out.size)); clear hb; dsimp only; refine hK.out _ _ ⟨HX.out.cell 0, HX.out.cell 1, HX.out.cell 2, HX.out.cell 3, HX.out.cell 4, HX.out.cell 5⟩ (fun hHeld => ?_); clear hK K))
  refine seq_do (fun K hK => ?_)
  go_simp
  refine hK.out _ _ ⟨(HX.out.alloc _).cell 0, (HX.out.alloc _).cell 1, (HX.out.alloc _).cell 2, (HX.out.alloc _).cell 3, (HX.out.alloc _).cell 4, (HX.out.alloc _).cell 5⟩ (fun hHeld => ?_)
  clear hK K
  repeat (first | (refine seq_skip (by rfl) ?_; try simp only [Act.put, List.setIfInBounds_toArray, List.set_cons_zero, List.set_cons_succ]) | (refine seq_not (by rfl) (by assumption) ?_; try simp only [Act.put, List.setIfInBounds_toArray, List.set_cons_zero, List.set_cons_succ]) | (refine seq_take (v := ?_) (by rfl) ?_ ?_; rotate_left; (focus ((intro w hSw; (try dsimp only at hSw); go_simp; (try with_reducible rfl)); done)); try simp only [Act.put, List.setIfInBounds_toArray, List.set_cons_zero, List.set_cons_succ]))
  refine seq_done ?_
  have hs := HB.out.size
  go_wp2
  go_ret
  exact ⟨_, rfl, hs, Blk.new _ _ _, HB.out.alloc hs _⟩
set_option maxRecDepth 100000 in
set_option maxHeartbeats 2000000 in
theorem find_fields (a0 a1 : Int)  (w : World) : Calls Try.prog 64 #[.agg #[.int .i64 a0, .int .i64 a1]] w fun e w' => ∃ g, e = .returned (.slice (some ⟨g, 0, none⟩) 2 2) ∧ w.heap.size ≤ g ∧ Blk w' g 66 (([⟨1, a0, 63⟩, ⟨1, a1, 63⟩] : List Fld).flatMap Fld.cs).toArray ∧ Below w.heap.size w w' := by
  have hb : Below w.heap.size w (w.alloc (.cells #[.int .i64 a0, .int .i64 a1] 77)) := (Below.refl _ w).alloc (Nat.le_refl _) _
  have hx : Blk (w.alloc (.cells #[.int .i64 a0, .int .i64 a1] 77)) w.heap.size 77 #[.int .i64 a0, .int .i64 a1] := Blk.new w _ _
  have HB := Lib.hid hb
  have HX := Lib.hid hx
  clear hb hx
  go_enter Try.func64, Try.ntmps64
  go_wp2
  generalize hw1 : w.alloc (.cells #[.int .i64 a0, .int .i64 a1] 77) = w1 at HB HX ⊢
  clear hw1
  have HX := Lib.hid HX.out.drew
  have HB := Lib.hid (below_drew_ HB.out)
  refine wp_region_seq [(0, true), (1, true), (3, true), (4, true), (2, false), (5, false), (6, false), (7, true)] (fun w' => w'.cell? ⟨w.heap.size, 0, none⟩ = some (.int .i64 a0) ∧ w'.cell? ⟨w.heap.size, 1, none⟩ = some (.int .i64 a1)) (by kernel_rfl) (by kernel_rfl) ⟨HX.out.cell 0, HX.out.cell 1⟩ (fun hHeld => ?_)
  simp only [List.map_cons, List.map_nil, List.getElem?_toArray, List.getElem?_cons_zero, List.getElem?_cons_succ]
  repeat (first | (first | (refine seq_skip (by rfl) ?_; try simp only [Act.put, List.setIfInBounds_toArray, List.set_cons_zero, List.set_cons_succ]) | (refine seq_not (by rfl) (by assumption) ?_; try simp only [Act.put, List.setIfInBounds_toArray, List.set_cons_zero, List.set_cons_succ]) | (refine seq_take (v := ?_) (by rfl) ?_ ?_; rotate_left; (focus ((intro w hSw; (try dsimp only at hSw); go_simp; (try with_reducible rfl)); done)); try simp only [Act.put, List.setIfInBounds_toArray, List.set_cons_zero, List.set_cons_succ])) | (refine seq_do (fun K hK => ?_); go_simp; (first | (go_at_call 57; (with_reducible refine Calls.mono (node_ok _ _) ?_)) | (go_at_call 61; (with_reducible refine Calls.mono (hops_ok _ _) ?_))); rintro e w2 ⟨rfl, hb⟩; have HX := Lib.hid (HX.out.keeps hb); have HB := Lib.hid (HB.out.trans (hb.mono HB.out.size)); clear hb; dsimp only; refine hK.out _ _ ⟨HX.out.cell 0, HX.out.cell 1⟩ (fun hHeld => ?_); clear hK K))
  refine seq_do (fun K hK => ?_)
  go_simp
  refine hK.out _ _ ⟨(HX.out.alloc _).cell 0, (HX.out.alloc _).cell 1⟩ (fun hHeld => ?_)
  clear hK K
  repeat (first | (refine seq_skip (by rfl) ?_; try simp only [Act.put, List.setIfInBounds_toArray, List.set_cons_zero, List.set_cons_succ]) | (refine seq_not (by rfl) (by assumption) ?_; try simp only [Act.put, List.setIfInBounds_toArray, List.set_cons_zero, List.set_cons_succ]) | (refine seq_take (v := ?_) (by rfl) ?_ ?_; rotate_left; (focus ((intro w hSw; (try dsimp only at hSw); go_simp; (try with_reducible rfl)); done)); try simp only [Act.put, List.setIfInBounds_toArray, List.set_cons_zero, List.set_cons_succ]))
  refine seq_done ?_
  have hs := HB.out.size
  go_wp2
  go_ret
  exact ⟨_, rfl, hs, Blk.new _ _ _, HB.out.alloc hs _⟩
set_option maxRecDepth 100000 in
set_option maxHeartbeats 2000000 in
theorem want_fields (a0 : Int) (w : World) : Calls Try.prog 56 #[.agg #[.int .i64 a0]] w fun e w' => ∃ g, e = .returned (.slice (some ⟨g, 0, none⟩) 1 1) ∧ w.heap.size ≤ g ∧ Blk w' g 66 (([⟨1, a0, 63⟩] : List Fld).flatMap Fld.cs).toArray ∧ Below w.heap.size w w' := by
  have hb : Below w.heap.size w (w.alloc (.cells #[.int .i64 a0] 51)) := (Below.refl _ w).alloc (Nat.le_refl _) _
  have HB := Lib.hid hb
  clear hb
  go_enter Try.func56, Try.ntmps56
  go_wp2_with (go_at_call 57; (with_reducible refine Calls.mono (node_ok _ _) ?_); rintro e w2 ⟨rfl, hb⟩; have HB2 := Lib.hid (HB.out.trans (hb.mono HB.out.size)); clear hb)
  have hs := HB2.out.size
  go_ret
  exact ⟨_, rfl, hs, Blk.new _ _ _, HB2.out.alloc hs _⟩
set_option maxRecDepth 100000 in
set_option maxHeartbeats 2000000 in
theorem pulse_fields (a0 a1 a2 : Int)  (w : World) : Calls Try.prog 66 #[.agg #[.int .i64 a0, .int .i64 a1, .int .i64 a2]] w fun e w' => ∃ g, e = .returned (.slice (some ⟨g, 0, none⟩) 3 3) ∧ w.heap.size ≤ g ∧ Blk w' g 66 (([⟨1, a0, 63⟩, ⟨1, a1, 63⟩, ⟨8, a2, 1125899906842624⟩] : List Fld).flatMap Fld.cs).toArray ∧ Below w.heap.size w w' := by
  have hb : Below w.heap.size w (w.alloc (.cells #[.int .i64 a0, .int .i64 a1, .int .i64 a2] 79)) := (Below.refl _ w).alloc (Nat.le_refl _) _
  have hx : Blk (w.alloc (.cells #[.int .i64 a0, .int .i64 a1, .int .i64 a2] 79)) w.heap.size 79 #[.int .i64 a0, .int .i64 a1, .int .i64 a2] := Blk.new w _ _
  have HB := Lib.hid hb
  have HX := Lib.hid hx
  clear hb hx
  go_enter Try.func66, Try.ntmps66
  go_wp2
  generalize hw1 : w.alloc (.cells #[.int .i64 a0, .int .i64 a1, .int .i64 a2] 79) = w1 at HB HX ⊢
  clear hw1
  have HX := Lib.hid HX.out.drew
  have HB := Lib.hid (below_drew_ HB.out)
  refine wp_region_seq [(0, true), (1, true), (3, true), (4, true), (6, true), (7, true), (2, false), (5, false), (8, false), (9, false), (10, true)] (fun w' => w'.cell? ⟨w.heap.size, 0, none⟩ = some (.int .i64 a0) ∧ w'.cell? ⟨w.heap.size, 1, none⟩ = some (.int .i64 a1) ∧ w'.cell? ⟨w.heap.size, 2, none⟩ = some (.int .i64 a2)) (by kernel_rfl) (by kernel_rfl) ⟨HX.out.cell 0, HX.out.cell 1, HX.out.cell 2⟩ (fun hHeld => ?_)
  simp only [List.map_cons, List.map_nil, List.getElem?_toArray, List.getElem?_cons_zero, List.getElem?_cons_succ]
  repeat (first | (first | (refine seq_skip (by rfl) ?_; try simp only [Act.put, List.setIfInBounds_toArray, List.set_cons_zero, List.set_cons_succ]) | (refine seq_not (by rfl) (by assumption) ?_; try simp only [Act.put, List.setIfInBounds_toArray, List.set_cons_zero, List.set_cons_succ]) | (refine seq_take (v := ?_) (by rfl) ?_ ?_; rotate_left; (focus ((intro w hSw; (try dsimp only at hSw); go_simp; (try with_reducible rfl)); done)); try simp only [Act.put, List.setIfInBounds_toArray, List.set_cons_zero, List.set_cons_succ])) | (refine seq_do (fun K hK => ?_); go_simp; (first | (go_at_call 57; (with_reducible refine Calls.mono (node_ok _ _) ?_)) | (go_at_call 62; (with_reducible refine Calls.mono (time_ok _ _) ?_))); rintro e w2 ⟨rfl, hb⟩; have HX := Lib.hid (HX.out.keeps hb); have HB := Lib.hid (HB.out.trans (hb.mono HB.out.size)); clear hb; dsimp only; refine hK.out _ _ ⟨HX.out.cell 0, HX.out.cell 1, HX.out.cell 2⟩ (fun hHeld => ?_); clear hK K))
  refine seq_do (fun K hK => ?_)
  go_simp
  refine hK.out _ _ ⟨(HX.out.alloc _).cell 0, (HX.out.alloc _).cell 1, (HX.out.alloc _).cell 2⟩ (fun hHeld => ?_)
  clear hK K
  repeat (first | (refine seq_skip (by rfl) ?_; try simp only [Act.put, List.setIfInBounds_toArray, List.set_cons_zero, List.set_cons_succ]) | (refine seq_not (by rfl) (by assumption) ?_; try simp only [Act.put, List.setIfInBounds_toArray, List.set_cons_zero, List.set_cons_succ]) | (refine seq_take (v := ?_) (by rfl) ?_ ?_; rotate_left; (focus ((intro w hSw; (try dsimp only at hSw); go_simp; (try with_reducible rfl)); done)); try simp only [Act.put, List.setIfInBounds_toArray, List.set_cons_zero, List.set_cons_succ]))
  refine seq_done ?_
  have hs := HB.out.size
  go_wp2
  go_ret
  exact ⟨_, rfl, hs, Blk.new _ _ _, HB.out.alloc hs _⟩
set_option maxRecDepth 100000 in
set_option maxHeartbeats 2000000 in
theorem reply_fields (a0 a1 a2 a3 a4 a5 a6 a7 : Int) (s6 : 0 ≤ a6 ∧ a6 ≤ 65535) (w : World) : Calls Try.prog 68 #[.agg #[.int .i64 a0, .int .i64 a1, .int .i64 a2, .int .i64 a3, .int .i64 a4, .int .i64 a5, .int .u16 a6, .int .i64 a7]] w fun e w' => ∃ g, e = .returned (.slice (some ⟨g, 0, none⟩) 8 8) ∧ w.heap.size ≤ g ∧ Blk w' g 66 (([⟨1, a0, 63⟩, ⟨1, a1, 63⟩, ⟨8, a2, 1125899906842624⟩, ⟨8, a3, 1125899906842624⟩, ⟨8, a4, 1125899906842624⟩, ⟨1, a5, 63⟩, ⟨2, a6, 65535⟩, ⟨1, a7, 63⟩] : List Fld).flatMap Fld.cs).toArray ∧ Below w.heap.size w w' := by
  have hb : Below w.heap.size w (w.alloc (.cells #[.int .i64 a0, .int .i64 a1, .int .i64 a2, .int .i64 a3, .int .i64 a4, .int .i64 a5, .int .u16 a6, .int .i64 a7] 81)) := (Below.refl _ w).alloc (Nat.le_refl _) _
  have hx : Blk (w.alloc (.cells #[.int .i64 a0, .int .i64 a1, .int .i64 a2, .int .i64 a3, .int .i64 a4, .int .i64 a5, .int .u16 a6, .int .i64 a7] 81)) w.heap.size 81 #[.int .i64 a0, .int .i64 a1, .int .i64 a2, .int .i64 a3, .int .i64 a4, .int .i64 a5, .int .u16 a6, .int .i64 a7] := Blk.new w _ _
  have HB := Lib.hid hb
  have HX := Lib.hid hx
  clear hb hx
  go_enter Try.func68, Try.ntmps68
  go_wp2
  generalize hw1 : w.alloc (.cells #[.int .i64 a0, .int .i64 a1, .int .i64 a2, .int .i64 a3, .int .i64 a4, .int .i64 a5, .int .u16 a6, .int .i64 a7] 81) = w1 at HB HX ⊢
  clear hw1
  have HX := Lib.hid HX.out.drew
  have HB := Lib.hid (below_drew_ HB.out)
  refine wp_region_seq [(0, true), (1, true), (3, true), (4, true), (6, true), (7, true), (9, true), (10, true), (12, true), (13, true), (15, true), (16, true), (18, true), (19, true), (21, true), (22, true), (2, false), (5, false), (8, false), (11, false), (14, false), (17, false), (20, false), (23, false), (24, false), (25, true)] (fun w' => w'.cell? ⟨w.heap.size, 0, none⟩ = some (.int .i64 a0) ∧ w'.cell? ⟨w.heap.size, 1, none⟩ = some (.int .i64 a1) ∧ w'.cell? ⟨w.heap.size, 2, none⟩ = some (.int .i64 a2) ∧ w'.cell? ⟨w.heap.size, 3, none⟩ = some (.int .i64 a3) ∧ w'.cell? ⟨w.heap.size, 4, none⟩ = some (.int .i64 a4) ∧ w'.cell? ⟨w.heap.size, 5, none⟩ = some (.int .i64 a5) ∧ w'.cell? ⟨w.heap.size, 6, none⟩ = some (.int .u16 a6) ∧ w'.cell? ⟨w.heap.size, 7, none⟩ = some (.int .i64 a7)) (by kernel_rfl) (by kernel_rfl) ⟨HX.out.cell 0, HX.out.cell 1, HX.out.cell 2, HX.out.cell 3, HX.out.cell 4, HX.out.cell 5, HX.out.cell 6, HX.out.cell 7⟩ (fun hHeld => ?_)
  simp only [List.map_cons, List.map_nil, List.getElem?_toArray, List.getElem?_cons_zero, List.getElem?_cons_succ]
  repeat (first | (first | (refine seq_skip (by rfl) ?_; try simp only [Act.put, List.setIfInBounds_toArray, List.set_cons_zero, List.set_cons_succ]) | (refine seq_not (by rfl) (by assumption) ?_; try simp only [Act.put, List.setIfInBounds_toArray, List.set_cons_zero, List.set_cons_succ]) | (refine seq_take (v := ?_) (by rfl) ?_ ?_; rotate_left; (focus ((intro w hSw; (try dsimp only at hSw); go_simp; (try with_reducible rfl)); done)); try simp only [Act.put, List.setIfInBounds_toArray, List.set_cons_zero, List.set_cons_succ])) | (refine seq_do (fun K hK => ?_); go_simp; (first | (go_at_call 57; (with_reducible refine Calls.mono (node_ok _ _) ?_)) | (go_at_call 61; (with_reducible refine Calls.mono (hops_ok _ _) ?_)) | (go_at_call 62; (with_reducible refine Calls.mono (time_ok _ _) ?_)) | (go_at_call 60; (with_reducible refine Calls.mono (short_ok a6 s6 _) ?_))); rintro e w2 ⟨rfl, hb⟩; have HX := Lib.hid (HX.out.keeps hb); have HB := Lib.hid (HB.out.trans (hb.mono HB.out.size)); clear hb; dsimp only; refine hK.out _ _ ⟨HX.out.cell 0, HX.out.cell 1, HX.out.cell 2, HX.out.cell 3, HX.out.cell 4, HX.out.cell 5, HX.out.cell 6, HX.out.cell 7⟩ (fun hHeld => ?_); clear hK K))
  refine seq_do (fun K hK => ?_)
  go_simp
  refine hK.out _ _ ⟨(HX.out.alloc _).cell 0, (HX.out.alloc _).cell 1, (HX.out.alloc _).cell 2, (HX.out.alloc _).cell 3, (HX.out.alloc _).cell 4, (HX.out.alloc _).cell 5, (HX.out.alloc _).cell 6, (HX.out.alloc _).cell 7⟩ (fun hHeld => ?_)
  clear hK K
  repeat (first | (refine seq_skip (by rfl) ?_; try simp only [Act.put, List.setIfInBounds_toArray, List.set_cons_zero, List.set_cons_succ]) | (refine seq_not (by rfl) (by assumption) ?_; try simp only [Act.put, List.setIfInBounds_toArray, List.set_cons_zero, List.set_cons_succ]) | (refine seq_take (v := ?_) (by rfl) ?_ ?_; rotate_left; (focus ((intro w hSw; (try dsimp only at hSw); go_simp; (try with_reducible rfl)); done)); try simp only [Act.put, List.setIfInBounds_toArray, List.set_cons_zero, List.set_cons_succ]))
  refine seq_done ?_
  have hs := HB.out.size
  go_wp2
  go_ret
  exact ⟨_, rfl, hs, Blk.new _ _ _, HB.out.alloc hs _⟩
set_option maxRecDepth 100000 in
set_option maxHeartbeats 2000000 in
theorem anchor_fields (a0 a1 a2 a3 a4 a5 : Int) (s1 : 0 ≤ a1 ∧ a1 ≤ 65535) (s3 : 0 ≤ a3 ∧ a3 ≤ 65535) (w : World) : Calls Try.prog 70 #[.agg #[.int .i64 a0, .int .u16 a1, .int .i64 a2, .int .u16 a3, .int .i64 a4, .int .i64 a5]] w fun e w' => ∃ g, e = .returned (.slice (some ⟨g, 0, none⟩) 6 6) ∧ w.heap.size ≤ g ∧ Blk w' g 66 (([⟨1, a0, 63⟩, ⟨2, a1, 65535⟩, ⟨1, a2, 63⟩, ⟨2, a3, 65535⟩, ⟨8, a4, 1125899906842624⟩, ⟨8, a5, 1125899906842624⟩] : List Fld).flatMap Fld.cs).toArray ∧ Below w.heap.size w w' := by
  have hb : Below w.heap.size w (w.alloc (.cells #[.int .i64 a0, .int .u16 a1, .int .i64 a2, .int .u16 a3, .int .i64 a4, .int .i64 a5] 83)) := (Below.refl _ w).alloc (Nat.le_refl _) _
  have hx : Blk (w.alloc (.cells #[.int .i64 a0, .int .u16 a1, .int .i64 a2, .int .u16 a3, .int .i64 a4, .int .i64 a5] 83)) w.heap.size 83 #[.int .i64 a0, .int .u16 a1, .int .i64 a2, .int .u16 a3, .int .i64 a4, .int .i64 a5] := Blk.new w _ _
  have HB := Lib.hid hb
  have HX := Lib.hid hx
  clear hb hx
  go_enter Try.func70, Try.ntmps70
  go_wp2
  generalize hw1 : w.alloc (.cells #[.int .i64 a0, .int .u16 a1, .int .i64 a2, .int .u16 a3, .int .i64 a4, .int .i64 a5] 83) = w1 at HB HX ⊢
  clear hw1
  have HX := Lib.hid HX.out.drew
  have HB := Lib.hid (below_drew_ HB.out)
  refine wp_region_seq [(0, true), (1, true), (3, true), (4, true), (6, true), (7, true), (9, true), (10, true), (12, true), (13, true), (15, true), (16, true), (2, false), (5, false), (8, false), (11, false), (14, false), (17, false), (18, false), (19, true)] (fun w' => w'.cell? ⟨w.heap.size, 0, none⟩ = some (.int .i64 a0) ∧ w'.cell? ⟨w.heap.size, 1, none⟩ = some (.int .u16 a1) ∧ w'.cell? ⟨w.heap.size, 2, none⟩ = some (.int .i64 a2) ∧ w'.cell? ⟨w.heap.size, 3, none⟩ = some (.int .u16 a3) ∧ w'.cell? ⟨w.heap.size, 4, none⟩ = some (.int .i64 a4) ∧ w'.cell? ⟨w.heap.size, 5, none⟩ = some (.int .i64 a5)) (by kernel_rfl) (by kernel_rfl) ⟨HX.out.cell 0, HX.out.cell 1, HX.out.cell 2, HX.out.cell 3, HX.out.cell 4, HX.out.cell 5⟩ (fun hHeld => ?_)
  simp only [List.map_cons, List.map_nil, List.getElem?_toArray, List.getElem?_cons_zero, List.getElem?_cons_succ]
  repeat (first | (first | (refine seq_skip (by rfl) ?_; try simp only [Act.put, List.setIfInBounds_toArray, List.set_cons_zero, List.set_cons_succ]) | (refine seq_not (by rfl) (by assumption) ?_; try simp only [Act.put, List.setIfInBounds_toArray, List.set_cons_zero, List.set_cons_succ]) | (refine seq_take (v := ?_) (by rfl) ?_ ?_; rotate_left; (focus ((intro w hSw; (try dsimp only at hSw); go_simp; (try with_reducible rfl)); done)); try simp only [Act.put, List.setIfInBounds_toArray, List.set_cons_zero, List.set_cons_succ])) | (refine seq_do (fun K hK => ?_); go_simp; (first | (go_at_call 57; (with_reducible refine Calls.mono (node_ok _ _) ?_)) | (go_at_call 62; (with_reducible refine Calls.mono (time_ok _ _) ?_)) | (go_at_call 60; (with_reducible refine Calls.mono (short_ok a1 s1 _) ?_)) | (go_at_call 60; (with_reducible refine Calls.mono (short_ok a3 s3 _) ?_))); rintro e w2 ⟨rfl, hb⟩; have HX := Lib.hid (HX.out.keeps hb); have HB := Lib.hid (HB.out.trans (hb.mono HB.out.size)); clear hb; dsimp only; refine hK.out _ _ ⟨HX.out.cell 0, HX.out.cell 1, HX.out.cell 2, HX.out.cell 3, HX.out.cell 4, HX.out.cell 5⟩ (fun hHeld => ?_); clear hK K))
  refine seq_do (fun K hK => ?_)
  go_simp
  refine hK.out _ _ ⟨(HX.out.alloc _).cell 0, (HX.out.alloc _).cell 1, (HX.out.alloc _).cell 2, (HX.out.alloc _).cell 3, (HX.out.alloc _).cell 4, (HX.out.alloc _).cell 5⟩ (fun hHeld => ?_)
  clear hK K
  repeat (first | (refine seq_skip (by rfl) ?_; try simp only [Act.put, List.setIfInBounds_toArray, List.set_cons_zero, List.set_cons_succ]) | (refine seq_not (by rfl) (by assumption) ?_; try simp only [Act.put, List.setIfInBounds_toArray, List.set_cons_zero, List.set_cons_succ]) | (refine seq_take (v := ?_) (by rfl) ?_ ?_; rotate_left; (focus ((intro w hSw; (try dsimp only at hSw); go_simp; (try with_reducible rfl)); done)); try simp only [Act.put, List.setIfInBounds_toArray, List.set_cons_zero, List.set_cons_succ]))
  refine seq_done ?_
  have hs := HB.out.size
  go_wp2
  go_ret
  exact ⟨_, rfl, hs, Blk.new _ _ _, HB.out.alloc hs _⟩
theorem fd_at : ∀ (fs : List Fld) (k : Nat) (f : Fld), fs[k]? = some f → ∀ (i : Nat) (u : Value), f.cs[i]? = some u → (fs.flatMap Fld.cs)[k * 3 + i]? = some u
  | [], k, f, h => by simp at h
  | y :: l, 0, f, h => by
    intro i u hu
    simp only [List.getElem?_cons_zero, Option.some.injEq] at h
    subst h
    have hi : i < y.cs.length := (List.getElem?_eq_some_iff.1 hu).1
    rw [List.flatMap_cons, Nat.zero_mul, Nat.zero_add, List.getElem?_append_left hi]
    exact hu
  | y :: l, k + 1, f, h => by
    intro i u hu
    rw [List.getElem?_cons_succ] at h
    rw [List.flatMap_cons, List.getElem?_append_right (by simp [Fld.cs]; omega), show (k + 1) * 3 + i - y.cs.length = k * 3 + i by simp [Fld.cs]; omega]
    exact fd_at l k f h i u hu
theorem all_take_succ (fs : List Fld) (k : Nat) (f : Fld) (h : fs[k]? = some f) : (fs.take (k + 1)).all Fld.ok = ((fs.take k).all Fld.ok && f.ok) := by
  rw [List.take_add_one, h]
  simp

set_option maxHeartbeats 800000 in
theorem good_of (T F : Nat) (v : Value) (kd : Int) (fs : List Fld) (w : World) (hk0 : (kd == 0) = false)
    (hK : ∀ w, Calls Try.prog 29 #[.iface T v] w fun e w' => e = .returned (.int .u8 kd) ∧ w = w')
    (hm : ∀ w, (method 218 T v "angelus/frame.fields").run Try.prog w = .ok (F, v) w) (hc : ∀ w, (callFunc F #[v]).run Try.prog w = .ok (.enter F #[v]) w)
    (hF : ∀ w, Calls Try.prog F #[v] w fun e w' => ∃ g, e = .returned (.slice (some ⟨g, 0, none⟩) fs.length fs.length) ∧ w.heap.size ≤ g ∧ Blk w' g 66 (fs.flatMap Fld.cs).toArray ∧ Below w.heap.size w w')
    (hl : fs.length ≤ 100) :
    Calls Try.prog 18 #[.iface T v] w fun e w' => e = .returned (.bool (fs.all Fld.ok)) ∧ Below w.heap.size w w' := by
  have HK := Lib.hid hK
  have HF := Lib.hid hF
  clear hK hF
  go_enter Try.func18, Try.ntmps18
  go_wp2_with (first
    | (go_at_call 29; with_reducible refine Calls.mono (HK.out _) ?_; rintro e w1 ⟨rfl, rfl⟩)
    | (with_reducible refine Calls.mono (HF.out _) ?_; rintro e w1 ⟨g, rfl, hg, hb, hw⟩; have HB := Lib.hid hb; have HW := Lib.hid hw; clear hb hw))
  go_loopw [4, 11] (fun _ i wr => ∃ k : Nat, k ≤ fs.length ∧ i = .int .i64 k ∧ (fs.take k).all Fld.ok = true ∧ Blk wr g 66 (fs.flatMap Fld.cs).toArray ∧ Below w.heap.size w wr) (fun _ i _ => fs.length - (intOf i).toNat)
  case atStart => exact ⟨0, Nat.zero_le _, rfl, by simp, HB.out, HW.out⟩
  case round =>
    obtain ⟨k, hk, rfl, ha, hb, hw⟩ := hrel
    have HA := Lib.hid ha
    have HB1 := Lib.hid hb
    have HW1 := Lib.hid hw
    clear ha
    by_cases hlt : k < fs.length
    · obtain ⟨f, hf⟩ : ∃ f, fs[k]? = some f := ⟨_, List.getElem?_eq_getElem hlt⟩
      have x0 : wr.cell? ⟨g, k * 3, none⟩ = some (.int .i64 f.size) := by
        have h := fd_at fs k f hf 0 _ rfl
        rw [Nat.add_zero] at h
        have := hb.cell (k * 3)
        rw [List.getElem?_toArray, h] at this
        exact this
      have x1 : wr.cell? ⟨g, k * 3 + 1, none⟩ = some (.int .i64 f.n) := by
        have := hb.cell (k * 3 + 1)
        rw [List.getElem?_toArray, fd_at fs k f hf 1 _ rfl] at this
        exact this
      have x2 : wr.cell? ⟨g, k * 3 + 2, none⟩ = some (.int .i64 f.most) := by
        have := hb.cell (k * 3 + 2)
        rw [List.getElem?_toArray, fd_at fs k f hf 2 _ rfl] at this
        exact this
      have HT := Lib.hid (all_take_succ fs k f hf)
      have HF2 := Lib.hid hf
      have HBN := Lib.hid (fun o => HB1.out.alloc o)
      have HWN := Lib.hid (fun o => HW1.out.alloc HW1.out.size o)
      clear hb hw hf
      obtain ⟨fz, fn, fm⟩ := f
      simp only at x0 x1 x2
      by_cases hok : Fld.ok ⟨fz, fn, fm⟩ = true
      · have hok2 : 0 ≤ fn ∧ fn ≤ fm := of_decide_eq_true hok
        have HOK := Lib.hid hok
        obtain ⟨h0, h1⟩ := hok2
        clear hok
        go_wp2
        go_roundw
        case rel => exact ⟨k + 1, hlt, by go_num, by rw [HT.out, HA.out, HOK.out]; rfl, HBN.out _, HWN.out _⟩
        case measure => simp [intOf]; omega
      · have hno : fs.all Fld.ok = false := by
          rw [List.all_eq_false]
          exact ⟨_, List.mem_of_getElem? HF2.out, hok⟩
        have hok2 : ¬ (0 ≤ fn ∧ fn ≤ fm) := fun h => hok (decide_eq_true h)
        have HNO := Lib.hid hno
        clear hok hno
        by_cases h0 : fn < 0
        · clear hok2
          go_wp2
          go_ret
          exact ⟨by rw [HNO.out]; rfl, HWN.out _⟩
        · have h1 : fm < fn := by omega
          clear hok2
          go_wp2
          go_ret
          exact ⟨by rw [HNO.out]; rfl, HWN.out _⟩
    · have hall : fs.all Fld.ok = true := by
        have := HA.out
        rwa [List.take_of_length_le (by omega)] at this
      have HALL := Lib.hid hall
      clear hall
      go_wp2
      go_ret
      exact ⟨by rw [HALL.out]; rfl, HW1.out⟩

end Go.Proofs.Ytjkngcpmcmffmaa.Fr
