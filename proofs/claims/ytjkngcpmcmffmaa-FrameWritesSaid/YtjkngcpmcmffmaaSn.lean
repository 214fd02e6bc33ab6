/- Sender, of whatever frame. -/
import Derived.Test.YtjkngcpmcmffmaaRe
namespace Go.Proofs.Ytjkngcpmcmffmaa.Sn
open Go.RowKit Go.Proofs.Ytjkngcpmcmffmaa.Bk Go.Proofs.Ytjkngcpmcmffmaa.Rw Go.Proofs.Ytjkngcpmcmffmaa.Ow Go.Proofs.Ytjkngcpmcmffmaa.Kp Go.Proofs.Ytjkngcpmcmffmaa.Sq Go.Proofs.Ytjkngcpmcmffmaa.Octet Go.Proofs.Ytjkngcpmcmffmaa.Fr Go.Proofs.Ytjkngcpmcmffmaa.Pn Go.Proofs.Ytjkngcpmcmffmaa.Crc Go.Proofs.Ytjkngcpmcmffmaa.Cr Go.Proofs.Ytjkngcpmcmffmaa.Gn Go.Proofs.Ytjkngcpmcmffmaa.Kd Go.Proofs.Ytjkngcpmcmffmaa.Dc Go.Proofs.Ytjkngcpmcmffmaa.De Go.Proofs.Ytjkngcpmcmffmaa.Pl Go.Proofs.Ytjkngcpmcmffmaa.Al Go.Proofs.Ytjkngcpmcmffmaa.Rd Go.Proofs.Ytjkngcpmcmffmaa.Re
theorem send_sync (a0 a1 a2 a3 a4 a5 : Int) (w : World) : Calls Try.prog 58 #[.agg #[.int .i64 a0, .int .i64 a1, .int .u16 a2, .int .u16 a3, .int .i64 a4, .int .i64 a5]] w fun e w' => e = .returned (.int .i64 a0) ∧ Below w.heap.size w w' := by
  have HB := Lib.hid ((Below.refl w.heap.size w).alloc (Nat.le_refl _) (.cells #[.int .i64 a0, .int .i64 a1, .int .u16 a2, .int .u16 a3, .int .i64 a4, .int .i64 a5] 75))
  go_enter Try.func58, Try.ntmps58
  go_wp2
  go_ret
  exact ⟨rfl, HB.out⟩
theorem send_find (a0 a1 : Int) (w : World) : Calls Try.prog 63 #[.agg #[.int .i64 a0, .int .i64 a1]] w fun e w' => e = .returned (.int .i64 a0) ∧ Below w.heap.size w w' := by
  have HB := Lib.hid ((Below.refl w.heap.size w).alloc (Nat.le_refl _) (.cells #[.int .i64 a0, .int .i64 a1] 77))
  go_enter Try.func63, Try.ntmps63
  go_wp2
  go_ret
  exact ⟨rfl, HB.out⟩
theorem send_want (a0 : Int) (w : World) : Calls Try.prog 55 #[.agg #[.int .i64 a0]] w fun e w' => e = .returned (.int .i64 a0) ∧ Below w.heap.size w w' := by
  have HB := Lib.hid ((Below.refl w.heap.size w).alloc (Nat.le_refl _) (.cells #[.int .i64 a0] 51))
  go_enter Try.func55, Try.ntmps55
  go_wp2
  go_ret
  exact ⟨rfl, HB.out⟩
theorem send_pulse (a0 a1 a2 : Int) (w : World) : Calls Try.prog 65 #[.agg #[.int .i64 a0, .int .i64 a1, .int .i64 a2]] w fun e w' => e = .returned (.int .i64 a0) ∧ Below w.heap.size w w' := by
  have HB := Lib.hid ((Below.refl w.heap.size w).alloc (Nat.le_refl _) (.cells #[.int .i64 a0, .int .i64 a1, .int .i64 a2] 79))
  go_enter Try.func65, Try.ntmps65
  go_wp2
  go_ret
  exact ⟨rfl, HB.out⟩
theorem send_reply (a0 a1 a2 a3 a4 a5 a6 a7 : Int) (w : World) : Calls Try.prog 67 #[.agg #[.int .i64 a0, .int .i64 a1, .int .i64 a2, .int .i64 a3, .int .i64 a4, .int .i64 a5, .int .u16 a6, .int .i64 a7]] w fun e w' => e = .returned (.int .i64 a0) ∧ Below w.heap.size w w' := by
  have HB := Lib.hid ((Below.refl w.heap.size w).alloc (Nat.le_refl _) (.cells #[.int .i64 a0, .int .i64 a1, .int .i64 a2, .int .i64 a3, .int .i64 a4, .int .i64 a5, .int .u16 a6, .int .i64 a7] 81))
  go_enter Try.func67, Try.ntmps67
  go_wp2
  go_ret
  exact ⟨rfl, HB.out⟩
theorem send_anchor (a0 a1 a2 a3 a4 a5 : Int) (w : World) : Calls Try.prog 69 #[.agg #[.int .i64 a0, .int .u16 a1, .int .i64 a2, .int .u16 a3, .int .i64 a4, .int .i64 a5]] w fun e w' => e = .returned (.int .i64 a0) ∧ Below w.heap.size w w' := by
  have HB := Lib.hid ((Below.refl w.heap.size w).alloc (Nat.le_refl _) (.cells #[.int .i64 a0, .int .u16 a1, .int .i64 a2, .int .u16 a3, .int .i64 a4, .int .i64 a5] 83))
  go_enter Try.func69, Try.ntmps69
  go_wp2
  go_ret
  exact ⟨rfl, HB.out⟩
theorem sender_of (p : Pl) (h : inK p) : ∃ T F v, ofv p = .iface T v ∧ (∀ w, (method 218 T v "Sender").run Try.prog w = .ok (F, v) w) ∧ (∀ w, (callFunc F #[v]).run Try.prog w = .ok (.enter F #[v]) w) ∧ ∀ w, Calls Try.prog F #[v] w fun e w' => e = .returned (.int .i64 p.from_) ∧ Below w.heap.size w w' := by
  rw [ofv_in h]
  have hk := kn_in h
  generalize kn p = k at hk ⊢
  rcases (by omega : k = 1 ∨ k = 2 ∨ k = 3 ∨ k = 4 ∨ k = 5 ∨ k = 6) with rfl | rfl | rfl | rfl | rfl | rfl
  · exact ⟨75, 58, _, rfl, fun _ => by kernel_rfl, fun _ => by kernel_rfl, fun w => send_sync _ _ _ _ _ _ w⟩
  · exact ⟨77, 63, _, rfl, fun _ => by kernel_rfl, fun _ => by kernel_rfl, fun w => send_find _ _ w⟩
  · exact ⟨51, 55, _, rfl, fun _ => by kernel_rfl, fun _ => by kernel_rfl, fun w => send_want _ w⟩
  · exact ⟨79, 65, _, rfl, fun _ => by kernel_rfl, fun _ => by kernel_rfl, fun w => send_pulse _ _ _ w⟩
  · exact ⟨81, 67, _, rfl, fun _ => by kernel_rfl, fun _ => by kernel_rfl, fun w => send_reply _ _ _ _ _ _ _ _ w⟩
  · exact ⟨83, 69, _, rfl, fun _ => by kernel_rfl, fun _ => by kernel_rfl, fun w => send_anchor _ _ _ _ _ _ w⟩
end Go.Proofs.Ytjkngcpmcmffmaa.Sn
