/- The walks of octet's writer, as far as_ the checks ahead of each law need them; and these checks. -/
import Derived.Test.YtbhcnepgkbpncaaOctet
import Derived.Test.YtbhcnepgkbpncaaStr
import Derived.Deep.RegionLaw
import Derived.Deep.AppendLies
namespace Go.Proofs.Ytbhcnepgkbpncaa.Pen
open Go.RowKit Go.Proofs.Ytbhcnepgkbpncaa.Bk Go.Proofs.Ytbhcnepgkbpncaa.Rw Go.Proofs.Ytbhcnepgkbpncaa.Ow Go.Proofs.Ytbhcnepgkbpncaa.Kp Go.Proofs.Ytbhcnepgkbpncaa.Octet Go.Proofs.Ytbhcnepgkbpncaa.Str

/-- A writer at block p, with these bytes. -/
def Pen (w : World) (base p : Nat) (v : Value) (l : List Int) : Prop := Blk w p 36 #[v] ∧ Oi .u8 5 w base v l ∧ base ≤ p ∧ (∀ q, v.ownBlock = some q → q ≠ p)

theorem Pen.alloc {w : World} {base p : Nat} {v : Value} {l : List Int} (h : Pen w base p v l) (o : Obj) : Pen (w.alloc o) base p v l := ⟨h.1.alloc _, h.2.1.alloc _, h.2.2⟩
theorem grown_pen {w w2 : World} {base p : Nat} {v v2 : Value} {l l2 : List Int} (ho : Oi .u8 5 w2 base v2 l2) (hg : w.grownBy w2 v.ownBlock) (hv : v2.ownBlock = v.ownBlock ∨ v2.ownBlock = some w.heap.size) (h : Pen w base p v l) :
    ∃ A c, v2 = .slice A l2.length c ∧ w2.cell? ⟨p, 0, none⟩ = some v ∧ w2.frozen? ⟨p, 0, none⟩ = false ∧ Hid (Pen (w2.setCell ⟨p, 0, none⟩ v2) base p v2 l2) ∧ Hid (∀ w0, Below base w0 w → base ≤ w.heap.size → Below base w0 (w2.setCell ⟨p, 0, none⟩ v2)) := by
  have hq : ∀ q, v2.ownBlock = some q → q ≠ p := fun q hq => by
    rcases hv with e | e
    · exact h.2.2.2 q (e.symm.trans hq)
    · rw [e] at hq
      injection hq with hq
      have := h.1.lt
      omega
  have hb : Blk w2 p 36 #[v] := Blk.grown h.1 hg (fun e => h.2.2.2 _ e.symm rfl)
  have hown := h.2.1.owner
  obtain ⟨A, c, he, _, _⟩ := ho.ri
  refine ⟨A, c, he, hb.cell 0, hb.frozen 0, Lib.hid ⟨hb.set_ 0 v2, oi_kp ho ((Kp.refl (· = p) w2).set_ ⟨p, 0, none⟩ (.inl rfl) v2) hq, h.2.2.1, hq⟩, Lib.hid fun w0 h0 hs => ?_⟩
  exact (h0.grown hg hs (fun q hq => (hown q hq).1)).setCell (p := ⟨p, 0, none⟩) h.2.2.1 _
theorem below_drew_ {B : Nat} {w w1 : World} (h : Below B w w1) : Below B w w1.drew := ⟨h.os, h.tape, h.output, h.size, h.block⟩
theorem shifts : (258 : Int) / 2 ^ 8 = 1 := by decide

set_option maxHeartbeats 1000000 in
theorem put_ok (w : World) (base p : Nat) (h : Pen w base p (.slice none 0 0) []) (hb : base ≤ w.heap.size) :
    Calls Try.prog 10 #[.pointer (some ⟨p, 0, none⟩), .int .i64 2, .int .u64 258] w fun e w' => ∃ v, e = .returned (.pointer (some ⟨p, 0, none⟩)) ∧ Pen w' base p v [1, 2] ∧ Below base w w' := by
  have H := Lib.hid h
  clear h
  go_enter Try.func10, Try.ntmps10
  go_wp2
  go_loopw [7] (fun i wr => ∃ j : Nat, ∃ v, j ≤ 2 ∧ i = .int .i64 (1 - j) ∧ Pen wr base p v (([1, 2] : List Int).take j) ∧ Below base w wr) (fun i _ => ((intOf i) + 1).toNat)
  case atStart => exact ⟨0, _, by omega, rfl, H.out, Below.refl _ _⟩
  case round =>
    obtain ⟨j, v, hj, rfl, hp, hbe⟩ := hrel
    clear H
    have HP := Lib.hid hp
    have HB := Lib.hid hbe
    have c0 : wr.cell? ⟨p, 0, none⟩ = some v := hp.1.cell 0
    have f0 := hp.1.frozen 0
    have ca : ∀ o, (wr.alloc o).cell? ⟨p, 0, none⟩ = some v := fun o => (HP.out.1.alloc o).cell 0
    clear hp hbe
    have q8 : IntKind.i64.wrap 8 = 8 := by decide
    have q0 : IntKind.i64.wrap 0 = 0 := by decide
    rcases (by omega : j = 0 ∨ j = 1 ∨ j = 2) with rfl | rfl | rfl
    · go_wp2
      go_region_law (refine step_append .u8 5 _ base (.int .u8 0) 1 rfl _ _ 22 rfl Try.underlying22 (by kernel_rfl) rfl v [] _ _ [1] _ rfl rfl rfl (HP.out.2.1.alloc _) (Ri.lit .u8 5 _ [1] (by unfold maxLen; decide) _ rfl) (by unfold maxLen; decide) (by decide) (by have := HB.out.size; simp; omega) ?_; intro v2 w2 ho hg hv; obtain ⟨A2, c2, rfl, c02, f2, HP2, HK2⟩ := grown_pen ho hg hv (by exact HP.out.alloc _); clear ho hg hv)
      all_goals
        go_wp2
        go_roundw
        case rel => exact ⟨1, _, by omega, by go_num, HP2.out, HK2.out _ (below_drew_ (HB.out.alloc (Nat.le_trans hb HB.out.size) _)) (by have := HB.out.size; simp; omega)⟩
        case measure => simp [intOf]
    · go_wp2
      go_region_law (refine step_append .u8 5 _ base (.int .u8 0) 1 rfl _ _ 22 rfl Try.underlying22 (by kernel_rfl) rfl v [1] _ _ [2] _ rfl rfl rfl (HP.out.2.1.alloc _) (Ri.lit .u8 5 _ [2] (by unfold maxLen; decide) _ rfl) (by unfold maxLen; decide) (by decide) (by have := HB.out.size; simp; omega) ?_; intro v2 w2 ho hg hv; obtain ⟨A2, c2, rfl, c02, f2, HP2, HK2⟩ := grown_pen ho hg hv (by exact HP.out.alloc _); clear ho hg hv)
      all_goals
        go_wp2
        go_roundw
        case rel => exact ⟨2, _, by omega, by go_num, HP2.out, HK2.out _ (below_drew_ (HB.out.alloc (Nat.le_trans hb HB.out.size) _)) (by have := HB.out.size; simp; omega)⟩
        case measure => simp [intOf]
    · go_wp2
      go_ret
      exact ⟨v, rfl, HP.out, HB.out⟩

theorem bytes_ok (w : World) (base p : Nat) (v : Value) (l : List Int) (h : Pen w base p v l) (hl : l.length ≤ 200000) :
    Calls Try.prog 11 #[.pointer (some ⟨p, 0, none⟩)] w fun e w' => ∃ v, e = .returned v ∧ Oi .u8 5 w' w.heap.size v l ∧ Below w.heap.size w w' := by
  have c0 : w.cell? ⟨p, 0, none⟩ = some v := h.1.cell 0
  obtain ⟨A, c, rfl, hc, hr⟩ := h.2.1.ri
  have HR := Lib.hid hr
  clear h hr
  go_enter Try.func11, Try.ntmps11
  go_wp2_with (at_builtin; refine wp_append .u8 5 _ w.heap.size (.int .u8 0) 1 rfl _ _ 22 rfl Try.underlying22 (by kernel_rfl) rfl (.slice none 0 0) [] _ _ l _ rfl rfl rfl (Oi.nil _ _ _ _) HR.out ?_ ?_ ?_ ?_)
  · unfold maxLen; simp; omega
  · simp; omega
  · exact Nat.le_refl _
  intro v2 w2 ho hg _
  have HW2 := Lib.hid ((Below.refl w.heap.size w).grown hg (Nat.le_refl _) (fun k hk => by cases hk))
  have HO := Lib.hid ho
  clear ho hg
  go_wp2
  go_ret
  exact ⟨v2, rfl, HO.out, HW2.out⟩

theorem alive_ok (w : World) : Calls Try.prog 5 #[] w fun e w' => e = .returned (.bool true) ∧ Below w.heap.size w w' := by
  go_enter Try.func5, Try.ntmps5
  go_wp2_with fail
  refine (put_ok _ w.heap.size w.heap.size ⟨Blk.new _ _ _, Oi.nil _ _ _ _, Nat.le_refl _, fun q hq => by cases hq⟩ (by simp)).mono ?_
  rintro e w1 ⟨v, rfl, hp, hb⟩
  have HP := Lib.hid hp
  have HB := Lib.hid (show Below w.heap.size w w1 from ((Below.refl w.heap.size w).alloc (Nat.le_refl _) _).trans hb)
  clear hp hb
  go_wp2_with fail
  refine (bytes_ok _ _ _ _ _ HP.out (by decide)).mono ?_
  rintro e w2 ⟨v2, rfl, ho, hb⟩
  obtain ⟨A, c, rfl, hc, hr⟩ := ho.ri
  have HR := Lib.hid hr
  have HB2 := Lib.hid (show Below w.heap.size w w2 from HB.out.trans (hb.mono HB.out.size))
  clear ho hr hb HP HB
  go_wp2_with fail
  refine (of_ok A c [1, 2] _ HR.out (by decide)).mono ?_
  rintro e w3 ⟨p2, A2, c2, rfl, he, hp2, _, hb⟩
  have HE := Lib.hid he
  have HB3 := Lib.hid (show Below w.heap.size w w3 from HB2.out.trans (hb.mono HB2.out.size))
  have HR3 := Lib.hid (HR.out.below hb)
  have hpA : ∀ ad, A = some ad → ad.block ≠ p2 := fun ad h => by
    have h1 := HR.out.2 (by decide)
    subst h
    obtain ⟨ad', h2, h3, _⟩ := h1
    injection h2 with h2
    subst h2
    omega
  have HPA := Lib.hid hpA
  have HPW := Lib.hid (show w.heap.size ≤ p2 from Nat.le_trans HB2.out.size hp2)
  clear he hb HB2 HR hpA hp2
  go_wp2_with fail
  refine (num_yes p2 A2 c2 [1, 2] 0 2 _ HE.out (by decide) (by decide) (by decide)).mono ?_
  rintro e w4 ⟨rfl, he, hk⟩
  have HE4 := Lib.hid he
  have HB4 := Lib.hid (show Below w.heap.size w w4 from below_kp HB3.out HB3.out.size hk (fun k hk => by subst hk; exact HPW.out))
  have HR4 := Lib.hid (ri_kp HR3.out hk (fun ad h => HPA.out ad h))
  clear he hk HE HB3 HR3
  have k0 : (convert 22 9 (.slice A 2 c)).run Try.prog w4 = .ok (.string ⟨#[1, 2]⟩) w4 := by
    have h := str_ok (P := Try.prog) w4 22 9 5 Try.underlying22 Try.underlying5 Try.underlying9 A [1, 2] c HR4.out
    rwa [show str [1, 2] = ⟨#[1, 2]⟩ by decide] at h
  go_wp2_with (go_at_call 9; with_reducible refine Calls.mono (left_ok p2 A2 c2 [1, 2] 2 _ HE4.out (by decide)) ?_; rintro e w' ⟨rfl, m, rfl⟩)

  go_ret
  exact ⟨rfl, below_drewN_ HB4.out m⟩
end Go.Proofs.Ytbhcnepgkbpncaa.Pen
