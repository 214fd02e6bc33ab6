/- The reference's row. -/
import Derived.Test.YtjmakjfnhffehaaIt2
import Derived.Test.YtjmakjfnhffehaaCk2
import Derived.Test.YtjmakjfnhffehaaIn
namespace Go.Proofs.Ytjmakjfnhffehaa.It
open Go.RowKit Go.Proofs.Ytjmakjfnhffehaa.Bk Go.Proofs.Ytjmakjfnhffehaa.Rw Go.Proofs.Ytjmakjfnhffehaa.Ow Go.Proofs.Ytjmakjfnhffehaa.Kp Go.Proofs.Ytjmakjfnhffehaa.Ring Go.Proofs.Ytjmakjfnhffehaa.RAlive Go.Proofs.Ytjmakjfnhffehaa.Ck Go.Proofs.Ytjmakjfnhffehaa.Ck2

/-- The reference's row at m: room, and a list at blocks from B1 on. -/
def Rf (w : World) (B1 m room : Nat) (xs : List Int) : Prop :=
  ∃ A c, Blk w m 36 #[.int .i64 room, .slice A xs.length c] ∧ xs.length ≤ c ∧ c ≤ maxLen ∧ Ri .i64 w A xs ∧ ∀ ad, A = some ad → B1 ≤ ad.block ∧ ad = ⟨ad.block, ad.off, none⟩
section
variable {w w' : World} {B1 m room : Nat} {xs : List Int}
theorem Rf.lt (h : Rf w B1 m room xs) : m < w.heap.size := let ⟨_, _, h1, _⟩ := h; h1.lt
theorem Rf.below (h : Rf w B1 m room xs) (hb : Below w.heap.size w w') : Rf w' B1 m room xs := let ⟨A, c, h1, h2, h3, h4, h5⟩ := h; ⟨A, c, h1.keeps hb, h2, h3, h4.below hb, h5⟩
theorem Rf.alloc (h : Rf w B1 m room xs) (o : Obj) : Rf (w.alloc o) B1 m room xs := h.below ((Below.refl _ _).alloc (Nat.le_refl _) _)
theorem Rf.drewN (h : Rf w B1 m room xs) (n : Nat) : Rf (w.drewN n) B1 m room xs := let ⟨A, c, h1, h2⟩ := h; ⟨A, c, h1, h2⟩
theorem Rf.drew (h : Rf w B1 m room xs) : Rf w.drew B1 m room xs := let ⟨A, c, h1, h2⟩ := h; ⟨A, c, h1, h2⟩
theorem Rf.kp {S : Nat → Prop} (h : Rf w B1 m room xs) (hk : Kp S w w') (hm : ¬ S m) (hb : ∀ k, B1 ≤ k → ¬ S k) : Rf w' B1 m room xs :=
  let ⟨A, c, h1, h2, h3, h4, h5⟩ := h; ⟨A, c, blk_kp h1 hk hm, h2, h3, ri_kp h4 hk (fun ad e => hb _ (h5 ad e).1), h5⟩
end
set_option maxRecDepth 100000 in
theorem rpush_full (B1 m room : Nat) (xs : List Int) (v : Int) (w : World) (h : Rf w B1 m room xs) (hge : room ≤ xs.length) :
    Calls Try.prog 11 #[.pointer (some ⟨m, 0, none⟩), .int .i64 v] w fun e w' => e = .returned (.int .i64 6) ∧ w' = w.drew := by
  obtain ⟨A, c, h1, _⟩ := h
  have c0 := h1.cell 0
  have c1 := h1.cell 1
  have n1 : decide ((room : Int) ≤ (xs.length : Int)) = true := by simp; omega
  have n2 : decide ((xs.length : Int) < (room : Int)) = false := by simp; omega
  have n3 : ¬ xs.length < room := by omega
  clear h1
  go_enter Try.func11, Try.ntmps11
  go_wp2_with fail
  go_region
  go_wp2
  go_ret
  exact ⟨rfl, rfl⟩
set_option maxRecDepth 100000 in
theorem rpop_none (B1 m room : Nat) (w : World) (h : Rf w B1 m room []) :
    Calls Try.prog 12 #[.pointer (some ⟨m, 0, none⟩)] w fun e w' => e = .returned (.tuple #[.int .i64 0, .bool false]) ∧ w = w' := by
  obtain ⟨A, c, h1, _⟩ := h
  have c1 := h1.cell 1
  clear h1
  go_enter Try.func12, Try.ntmps12
  go_wp2
  go_ret2
  exact ⟨rfl, rfl⟩
set_option maxRecDepth 100000 in
theorem rpop_ok (B1 m room : Nat) (x : Int) (xs : List Int) (w : World) (h : Rf w B1 m room (x :: xs)) (hm : m < B1) :
    Calls Try.prog 12 #[.pointer (some ⟨m, 0, none⟩)] w fun e w' => e = .returned (.tuple #[.int .i64 x, .bool true]) ∧ Rf w' B1 m room xs ∧ Kp (fun k => k = m) w w' := by
  obtain ⟨A, c, h1, h2, h3, h4, h5⟩ := h
  have c1 := h1.cell 1
  have f1 := h1.frozen 1
  have c0 := h1.cell 0
  obtain ⟨ad, rfl, hlt, hc⟩ := h4.2 (by simp)
  obtain ⟨hB, had⟩ := h5 ad rfl
  obtain ⟨g, o, k⟩ := ad
  simp only [Addr.mk.injEq, true_and] at had
  subst had
  have hadd : ∀ j, (⟨g, o, none⟩ : Addr).add j = ⟨g, o + j, none⟩ := fun j => by unfold Addr.add; split <;> simp_all
  have l0 : w.cell? ⟨g, o, none⟩ = some (.int .i64 x) := by have := hc 0 x rfl; rwa [hadd] at this
  have hlm := h4.1
  have H1 := Lib.hid h1
  have HC := Lib.hid hc
  have hgm : ¬ g = m := by dsimp only at hB; omega
  have HL := Lib.hid (show g < w.heap.size from hlt)
  have n1 : ¬ ((xs.length : Int) + 1 = 0) := by omega
  simp only [List.length_cons] at h2 h1 c1 hlm
  have n3 : (1 : Int) ≤ (c : Int) := by omega
  clear h1 h4 h5 hc hlt
  go_enter Try.func12, Try.ntmps12
  go_wp2
  · rename_i hcc
    go_ret2
    refine ⟨rfl, ⟨some ⟨g, o, none⟩, 0, H1.out.set_ 1 _, by omega, by unfold maxLen; omega, ?_, ?_⟩, kp_set (S := fun k => k = m) (.inl rfl) (Kp.refl _ _)⟩
    · rw [show xs = [] from List.eq_nil_of_length_eq_zero (by omega)]
      exact Ri.nil
    · rintro ad ⟨⟩
      exact ⟨hB, rfl⟩
  · rename_i hcc
    go_ret2
    refine ⟨rfl, ⟨some ⟨g, o + 1, none⟩, c - 1, H1.out.set_ 1 _, by omega, by omega, ⟨by omega, fun _ => ⟨_, rfl, by simp only [World.setCell]; simpa using HL.out, fun j y hy => ?_⟩⟩, ?_⟩, kp_set (S := fun k => k = m) (.inl rfl) (Kp.refl _ _)⟩
    · have hc := HC.out (j + 1) y (by simpa using hy)
      rw [hadd] at hc
      have : (⟨g, o + 1, none⟩ : Addr).add j = ⟨g, o + (j + 1), none⟩ := by unfold Addr.add; split <;> simp_all; omega
      rw [this, World.cell?_setCell_other _ _ _ _ (fun e => hgm (congrArg Addr.block e).symm)]
      exact hc
    · rintro ad ⟨⟩
      exact ⟨hB, rfl⟩
set_option maxRecDepth 100000 in
theorem rpush_ok (B1 m room : Nat) (xs : List Int) (v : Int) (w : World) (h : Rf w B1 m room xs) (hl : xs.length < room) (hr : room ≤ 64) (hB : B1 ≤ w.heap.size) (hm : m < B1) :
    Calls Try.prog 11 #[.pointer (some ⟨m, 0, none⟩), .int .i64 v] w fun e w' => e = .returned (.int .i64 0) ∧ Rf w' B1 m room (xs ++ [v]) ∧ Kp (fun k => k = m) w w' := by
  obtain ⟨A, c, h1, h2, h3, h4, h5⟩ := h
  have c0 := h1.cell 0
  have c1 := h1.cell 1
  have n3 : xs.length < room := by omega
  have n1 : decide ((room : Int) ≤ (xs.length : Int)) = false := by simp; omega
  have n2 : decide ((xs.length : Int) < (room : Int)) = true := by simp; omega
  have H1 := Lib.hid h1
  have H4 := Lib.hid h4
  have d1 := (h1.alloc (.cells #[] 3)).drew.cell 1
  have HO := Lib.hid (Oi.lit .i64 3 w w.heap.size (Nat.le_refl _) [] (by simp) #[] rfl)
  clear h1 h4 h5
  go_enter Try.func11, Try.ntmps11
  go_wp2_with fail
  go_region
  go_wp2_with (at_builtin; refine wp_append .i64 3 _ w.heap.size (.int .i64 0) 8 rfl _ _ 34 rfl Try.underlying34 (by kernel_rfl) rfl _ _ _ _ xs _ rfl rfl rfl HO.out.drew (H4.out.alloc _).drew ?_ ?_ ?_ ?_)
  · unfold maxLen; simp; omega
  · simp; omega
  · show w.heap.size ≤ (w.alloc _).heap.size
    simp
  intro v2 w2 ho hg2 hv2
  have HO2 := Lib.hid (show Oi .i64 3 w2 w.heap.size v2 xs from ho)
  have HK2 := Lib.hid (show Kp (fun _ => False) w w2 from ((Kp.refl _ _).alloc _).drew.grown hg2 (fun q hq => .inr (HO.out.owner q hq).1))
  have hs2 : w.heap.size ≤ w2.heap.size := HK2.out.size
  clear ho hg2 hv2 HO d1
  go_wp2_with (at_builtin; refine wp_append .i64 3 _ w.heap.size (.int .i64 0) 8 rfl _ _ 34 rfl Try.underlying34 (by kernel_rfl) rfl _ _ _ _ [v] _ rfl rfl rfl (HO2.out.alloc _) (Ri.lit .i64 3 _ [v] (by simp [maxLen]) _ rfl) ?_ ?_ ?_ ?_)
  · unfold maxLen; simp; omega
  · simp; omega
  · simp; omega
  intro v3 w3 ho hg3 hv3
  have HK3 := Lib.hid (show Kp (fun _ => False) w w3 from (HK2.out.alloc _).grown hg3 (fun q hq => .inr (HO2.out.owner q hq).1))
  have HM3 := Lib.hid (blk_kp H1.out HK3.out (fun h => h))
  have hown := ho.form
  have hri := ho.ri
  obtain ⟨A3, c3, rfl, hc3, hri⟩ := hri
  have hA3 : ∀ ad, A3 = some ad → w.heap.size ≤ ad.block ∧ ad = ⟨ad.block, ad.off, none⟩ := by
    intro ad hA
    rcases hown with ⟨h, _⟩ | ⟨g, c, h, hg, _⟩
    · injection h with h
      rw [h] at hA
      cases hA
    · injection h with h
      rw [h] at hA
      injection hA with hA
      subst hA
      exact ⟨hg, rfl⟩
  have hcm : c3 ≤ maxLen := by
    rcases hown with ⟨h, _⟩ | ⟨g, c, h, _, _, _, hcm, _⟩
    · injection h with _ _ h
      rw [h]
      exact Nat.zero_le _
    · injection h with _ _ h
      rw [h]
      exact hcm
  have HRI := Lib.hid hri
  have HA3 := Lib.hid hA3
  have f1 := HM3.out.frozen 1
  have e1 := HM3.out.cell 1
  clear ho hg3 hv3 hown hri hA3 HO2 HK2
  go_wp2
  go_ret
  refine ⟨rfl, ⟨A3, c3, by rw [List.length_append, List.length_singleton]; exact HM3.out.set_ 1 _, hc3, hcm, ri_kp HRI.out (kp_set (S := fun k => k = m) (.inl rfl) (Kp.refl _ _)) (fun ad e => by have := (HA3.out ad e).1; omega), fun ad e => ⟨by have := (HA3.out ad e).1; omega, (HA3.out ad e).2⟩⟩, kp_set (S := fun k => k = m) (.inl rfl) (HK3.out.mono (fun _ _ h => h.elim))⟩
end Go.Proofs.Ytjmakjfnhffehaa.It
