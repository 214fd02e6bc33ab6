/- New. -/
import Derived.Test.YtofflnklbdhaiaaDoorLk
namespace Go.Proofs.YtofflnklbdhaiaaDoor.Lk
open Go.RowKit Go.Proofs.YtofflnklbdhaiaaDoor.Bk Go.Proofs.YtofflnklbdhaiaaDoor.Rw Go.Proofs.YtofflnklbdhaiaaDoor.Ow Go.Proofs.YtofflnklbdhaiaaDoor.Kp Go.Proofs.YtofflnklbdhaiaaDoor.Ck Go.Proofs.YtofflnklbdhaiaaDoor.Ck2

theorem new_no (n : Int) (w : World) (h : n < 1 ∨ 64 < n) : Calls Tryd.prog 13 #[.int .i64 n] w fun e w' => e = .returned (.tuple #[.pointer none, .int .i64 1]) ∧ w = w' := by
  rcases h with h | h
  · go_enter Tryd.func13, Tryd.ntmps13
    go_wp2
    go_ret2
    exact ⟨rfl, rfl⟩
  · have h0 : ¬ n < 1 := by omega
    go_enter Tryd.func13, Tryd.ntmps13
    go_wp2
    go_ret2
    exact ⟨rfl, rfl⟩
theorem new_ok (n : Nat) (w : World) (h1 : 1 ≤ n) (h2 : n ≤ 64) : Calls Tryd.prog 13 #[.int .i64 n] w fun e w' => ∃ p g, e = .returned (.tuple #[.pointer (some ⟨p, 0, none⟩), .int .i64 0]) ∧ Ln w' p g (List.replicate n 0) ∧ w.heap.size ≤ p ∧ w.heap.size ≤ g ∧ Below w.heap.size w w' := by
  have q1 : ¬ ((n : Int) < 1) := by omega
  have q2 : ¬ (64 < (n : Int)) := by omega
  have q3 : ¬ (n < 1) := by omega
  have q4 : ¬ (64 < n) := by omega
  go_enter Tryd.func13, Tryd.ntmps13
  go_wp2_with (with_reducible refine wp_full .u64 23 w w.heap.size 8 rfl 24 _ _ rfl Tryd.underlying24 (by kernel_rfl) .i64 .i64 _ _ n rfl rfl rfl rfl ?_ ?_ (Nat.le_refl _) ?_)
  · omega
  · unfold maxLen; omega
  intro w2 ho hg
  have ho2 := ho
  unfold Oi at ho2
  rw [List.length_replicate] at ho2
  have hb := blk_of_row ho2
  have HB := Lib.hid hb.1
  have HW := Lib.hid ((Below.refl w.heap.size w).grown hg (Nat.le_refl _) (fun k hk => nomatch hk))
  clear ho ho2 hg hb
  go_wp2
  go_ret2
  have hlt := HB.out.lt
  refine ⟨w2.heap.size, w.heap.size, rfl, ⟨?_, ?_, by omega, fun x hx => by rw [List.eq_of_mem_replicate hx]; decide, by simpa using h1, by simpa using h2⟩, HW.out.size, Nat.le_refl _, HW.out.alloc HW.out.size _⟩
  · rw [List.length_replicate]
    exact Blk.new _ _ _
  · have := HB.out.alloc (.cells #[.int .i64 n, .slice (some ⟨w.heap.size, 0, none⟩) n n] 65)
    simpa [us] using this
end Go.Proofs.YtofflnklbdhaiaaDoor.Lk
