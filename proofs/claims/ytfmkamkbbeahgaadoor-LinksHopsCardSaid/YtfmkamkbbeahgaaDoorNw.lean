/- New, all, and the law's same. -/
import Derived.Test.YtfmkamkbbeahgaaDoorLk
namespace Go.Proofs.YtfmkamkbbeahgaaDoor.Lk
open Go.RowKit Go.Proofs.YtfmkamkbbeahgaaDoor.Bk Go.Proofs.YtfmkamkbbeahgaaDoor.Rw Go.Proofs.YtfmkamkbbeahgaaDoor.Ow Go.Proofs.YtfmkamkbbeahgaaDoor.Kp Go.Proofs.YtfmkamkbbeahgaaDoor.Ck Go.Proofs.YtfmkamkbbeahgaaDoor.Ck2

theorem new_no (n : Int) (w : World) (h : n < 1 ∨ 64 < n) : Calls Tryd.prog 13 #[.int .i64 n] w fun e w' => e = .returned (.tuple #[.pointer none, .int .i64 1]) ∧ w = w' := by
  rcases h with h | h
  · go_enter Tryd.func13, Tryd.ntmps13
    go_wp2
    go_ret2
    exact ⟨rfl, rfl⟩
  · have h0 : ¬ n < 1 := by omega
    go_enter Tryd.func13, Tryd.ntmps13
    go_wp2
    go_ret2
    exact ⟨rfl, rfl⟩
theorem new_ok (n : Nat) (w : World) (h1 : 1 ≤ n) (h2 : n ≤ 64) : Calls Tryd.prog 13 #[.int .i64 n] w fun e w' => ∃ p g, e = .returned (.tuple #[.pointer (some ⟨p, 0, none⟩), .int .i64 0]) ∧ Ln w' p g (List.replicate n 0) ∧ w.heap.size ≤ p ∧ w.heap.size ≤ g ∧ Below w.heap.size w w' := by
  have q1 : ¬ ((n : Int) < 1) := by omega
  have q2 : ¬ (64 < (n : Int)) := by omega
  have q3 : ¬ (n < 1) := by omega
  have q4 : ¬ (64 < n) := by omega
  go_enter Tryd.func13, Tryd.ntmps13
  go_wp2_with (with_reducible refine wp_full .u64 22 w w.heap.size 8 rfl 56 _ _ rfl Tryd.underlying56 (by kernel_rfl) .i64 .i64 _ _ n rfl rfl rfl rfl ?_ ?_ (Nat.le_refl _) ?_)
  · omega
  · unfold maxLen; omega
  intro w2 ho hg
  have ho2 := ho
  unfold Oi at ho2
  rw [List.length_replicate] at ho2
  have hb := blk_of_row ho2
  have HB := Lib.hid hb.1
  have HW := Lib.hid ((Below.refl w.heap.size w).grown hg (Nat.le_refl _) (fun k hk => nomatch hk))
  clear ho ho2 hg hb
  go_wp2
  go_ret2
  have hlt := HB.out.lt
  refine ⟨w2.heap.size, w.heap.size, rfl, ⟨?_, ?_, by omega, fun x hx => by rw [List.eq_of_mem_replicate hx]; decide, by simpa using h1, by simpa using h2⟩, HW.out.size, Nat.le_refl _, HW.out.alloc HW.out.size _⟩
  · rw [List.length_replicate]
    exact Blk.new _ _ _
  · have := HB.out.alloc (.cells #[.int .i64 n, .slice (some ⟨w.heap.size, 0, none⟩) n n] 58)
    simpa [us] using this
theorem all_any (l : Option Addr) (a : List Nat) (w : World) (h : Lo w l a) (ha : a.length ≤ 64) : Calls Tryd.prog 25 #[.pointer l] w fun e w' => e = .returned (.int .u64 ((2 ^ a.length - 1 : Nat) : Int)) ∧ w = w' := by
  have CL := Lib.hid (len_any l a w h)
  obtain ⟨n, hn⟩ : ∃ n, a.length = n := ⟨_, rfl⟩
  rw [hn] at CL ha ⊢
  have hp : 0 < 2 ^ n := Nat.two_pow_pos n
  have e1 : IntKind.u64.wrap (IntKind.u64.wrap ((2 : Int) ^ n) - 1) = ((2 ^ n - 1 : Nat) : Int) := by
    have e : ((2 : Int) ^ n) = ((2 ^ n : Nat) : Int) := by simp
    rw [e, IntKind.wrap_u64, IntKind.wrap_u64]
    rcases Nat.lt_or_ge n 64 with h64 | h64
    · have : 2 ^ n < 18446744073709551616 := Nat.pow_lt_pow_right (by decide) h64
      omega
    · have : n = 64 := by omega
      subst this
      decide
  have n3 : ¬ ((n : Int) < 0) := by omega
  clear h hn
  go_enter Tryd.func25, Tryd.ntmps25
  go_wp2_with (go_at_call 22; (with_reducible refine Calls.mono CL.out ?_); rintro e w1 ⟨rfl, rfl⟩)
  go_ret
  exact ⟨rfl, rfl⟩
set_option maxRecDepth 100000 in
theorem same_eq (A B : Option Addr) (c d : Nat) (l : List Int) (w : World) (hA : Ri .i64 w A l) (hB : Ri .i64 w B l) (hl : l.length ≤ 1000) : Calls Tryd.prog 12 #[.slice A l.length c, .slice B l.length d] w fun e w' => e = .returned (.bool true) ∧ Below w.heap.size w w' := by
  have HA := Lib.hid hA
  have HB := Lib.hid hB
  clear hA hB
  go_enter Tryd.func12, Tryd.ntmps12
  go_wp2_with fail
  go_loopw [13] (fun i wr => ∃ k : Nat, k ≤ l.length ∧ i = .int .i64 k ∧ ∃ j, wr = w.drewN j) (fun i _ => l.length - (intOf i).toNat)
  case atStart => exact ⟨0, Nat.zero_le _, rfl, 0, rfl⟩
  case round =>
    obtain ⟨k, hk, rfl, j, rfl⟩ := hrel
    by_cases hlt : k < l.length
    · obtain ⟨ad, rfl, _, ha⟩ := (HA.out.drewN j).at_ hlt
      obtain ⟨bd, rfl, _, hb⟩ := (HB.out.drewN j).at_ hlt
      have n1 : (k : Int) < (l.length : Int) := by omega
      generalize l.getD k 0 = z at ha hb
      have ha2 : w.cell? (ad.add k) = some (.int .i64 z) := ha
      have hb2 : w.cell? (bd.add k) = some (.int .i64 z) := hb
      have ha3 : (w.drewN j).drew.cell? (ad.add k) = some (.int .i64 z) := ha
      have hb3 : (w.drewN j).drew.cell? (bd.add k) = some (.int .i64 z) := hb
      clear ha hb
      go_wp2_with fail
      go_region
      go_wp2
      go_roundw
      case rel => exact ⟨k + 1, by omega, by go_num, j + 1, rfl⟩
      case measure => simp [intOf]; omega
    · have hke : k = l.length := by omega
      subst hke
      go_wp2
      go_ret
      exact ⟨rfl, below_drewN_ (Below.refl _ _) j⟩
end Go.Proofs.YtfmkamkbbeahgaaDoor.Lk
