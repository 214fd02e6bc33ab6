/- Our own text, made by our program own_print.py out of what the kit's print wrote for this law. -/
import Derived.Test.YtlklbcaoooeioaaQBoundClocksx0
import Derived.Test.YtlklbcaoooeioaaQBoundClocksx1
namespace Go.Proofs.Ytlklbcaoooeioaa.QBoundClocks
open Go.RowKit Go.Proofs.YtlklbcaoooeioaaW.PrintWords Go.Proofs.YtlklbcaoooeioaaW.PrintLast Go.Proofs.YtlklbcaoooeioaaW.PrintMore
open List (setIfInBounds_toArray set_cons_zero set_cons_succ map_toArray map_cons map_nil length_drop length_take)
attribute [local go_sem] max2_int min2_int max_two min_two max_three min_three max_four min_four   -- for this text's walks alone
set_option linter.unusedVariables false
set_option linter.unusedSimpArgs false

/-! ### angeluslaw25_BoundClocks: function 3 -/
mutual
def angeluslaw25_BoundClocks.j0 : Nat → List Int → List Int → Bool → Int → Int → Int → Int → Option (Bool)
  | 0, _, _, _, _, _, _, _ => none
  | k + 1, x1, x2, x28, x116000, x116001, x116002, x116003 => if x28 = true then (some true) else (angeluslaw25_BoundClocks.l0 k x1 x2 0 0 (x1.length : Int) 0 x116000 x116001 x116002 x116003)
def angeluslaw25_BoundClocks.l0 : Nat → List Int → List Int → Int → Int → Int → Int → Int → Int → Int → Int → Option (Bool)
  | 0, _, _, _, _, _, _, _, _, _, _ => none
  | k + 1, x1, x2, x7, x8, x30, x31, x116000, x116001, x116002, x116003 => if x31 < x30 then (if 0 ≤ x31 then (if x31 < (x1.length : Int) then (if (rd x1 x31) < (wrap64 (1000 - x116000)) then (some true) else (if (rd x1 x31) > (wrap64 (1000 + x116000)) then (some true) else (if x31 < (x2.length : Int) then (if (rd x2 x31) < (wrap64 (1000 - x116000)) then (some true) else (if (rd x2 x31) > (wrap64 (1000 + x116000)) then (some true) else (angeluslaw25_BoundClocks.l0 k x1 x2 (wrap64 (x7 + (rd x1 x31))) (wrap64 (x8 + (rd x2 x31))) x30 (wrap64 (x31 + 1)) x116000 x116001 x116002 x116003))) else (none)))) else (none)) else (none)) else (if x116003 = 0 then (none) else ((bound_Terms_Ticks.f x116000 x116001 x116002 x116003 (wrap64 (Int.tdiv (wrap64 ((wrap64 ((x1.length : Int) + x116003)) - 1)) x116003))).bind fun t124 => (if x7 ≤ t124 then ((bound_Terms_Lag.f x116000 x116001 x116002 x116003 (wrap64 (Int.tdiv (wrap64 ((wrap64 ((x1.length : Int) + x116003)) - 1)) x116003))).bind fun t125 => (if (wrap64 (x7 - x8)) ≤ t125 then ((bound_Terms_Lag.f x116000 x116001 x116002 x116003 (wrap64 (Int.tdiv (wrap64 ((wrap64 ((x1.length : Int) + x116003)) - 1)) x116003))).bind fun t126 => (some (decide ((wrap64 (-(wrap64 (x7 - x8)))) ≤ t126)))) else (some false))) else (some false))))
end
def angeluslaw25_BoundClocks.f (k : Nat) (a0_0 : Int) (a0_1 : Int) (a0_2 : Int) (a0_3 : Int) (l1 : List Int) (l2 : List Int) : Option (Bool) := (angeluslaw25_alive.f).bind fun t116 => (if t116 = true then ((bound_Terms_Good.f a0_0 a0_1 a0_2 a0_3).bind fun t117 => (if t117 = true then (if (l1.length : Int) > 300 then (angeluslaw25_BoundClocks.j0 k l1 l2 true a0_0 a0_1 a0_2 a0_3) else (angeluslaw25_BoundClocks.j0 k l1 l2 (decide ((l2.length : Int) < (l1.length : Int))) a0_0 a0_1 a0_2 a0_3)) else (angeluslaw25_BoundClocks.j0 k l1 l2 true a0_0 a0_1 a0_2 a0_3))) else (some false))
theorem angeluslaw25_BoundClocks.mono_l : ∀ k, (∀ y0 y1 y2 y3 y4 y5 y6, LeO (angeluslaw25_BoundClocks.j0 k y0 y1 y2 y3 y4 y5 y6) (angeluslaw25_BoundClocks.j0 (k + 1) y0 y1 y2 y3 y4 y5 y6)) ∧ (∀ y0 y1 y2 y3 y4 y5 y6 y7 y8 y9, LeO (angeluslaw25_BoundClocks.l0 k y0 y1 y2 y3 y4 y5 y6 y7 y8 y9) (angeluslaw25_BoundClocks.l0 (k + 1) y0 y1 y2 y3 y4 y5 y6 y7 y8 y9))
 | 0 => ⟨fun _ _ _ _ _ _ _ r h => by simp [angeluslaw25_BoundClocks.j0] at h, fun _ _ _ _ _ _ _ _ _ _ r h => by simp [angeluslaw25_BoundClocks.l0] at h⟩
 | k + 1 => by
  obtain ⟨ih0, ih1⟩ := angeluslaw25_BoundClocks.mono_l k
  refine ⟨?_, ?_⟩
  · intro y0 y1 y2 y3 y4 y5 y6
    unfold angeluslaw25_BoundClocks.j0
    repeat' first
    | (with_reducible exact ih0 _ _ _ _ _ _ _)
    | (with_reducible exact ih1 _ _ _ _ _ _ _ _ _ _)
    | (with_reducible exact LeO.refl _)
    | (with_reducible exact LeO.none _)
    | (with_reducible refine LeO.ite ?_ ?_)
    | (with_reducible refine LeO.bind ?_ (fun _ => ?_))
    | exact ih0 _ _ _ _ _ _ _
    | exact ih1 _ _ _ _ _ _ _ _ _ _
    | exact LeO.none _
    | refine LeO.ite ?_ ?_
    | refine LeO.bind ?_ (fun _ => ?_)
  · intro y0 y1 y2 y3 y4 y5 y6 y7 y8 y9
    unfold angeluslaw25_BoundClocks.l0
    repeat' first
    | (with_reducible exact ih0 _ _ _ _ _ _ _)
    | (with_reducible exact ih1 _ _ _ _ _ _ _ _ _ _)
    | (with_reducible exact LeO.refl _)
    | (with_reducible exact LeO.none _)
    | (with_reducible refine LeO.ite ?_ ?_)
    | (with_reducible refine LeO.bind ?_ (fun _ => ?_))
    | exact ih0 _ _ _ _ _ _ _
    | exact ih1 _ _ _ _ _ _ _ _ _ _
    | exact LeO.none _
    | refine LeO.ite ?_ ?_
    | refine LeO.bind ?_ (fun _ => ?_)
theorem angeluslaw25_BoundClocks.mono : ∀ a0 a1 a2 a3 a4 a5 k, LeO (angeluslaw25_BoundClocks.f k a0 a1 a2 a3 a4 a5) (angeluslaw25_BoundClocks.f (k + 1) a0 a1 a2 a3 a4 a5) := by
 intro a0 a1 a2 a3 a4 a5 k
 obtain ⟨ih0, ih1⟩ := angeluslaw25_BoundClocks.mono_l k
 unfold angeluslaw25_BoundClocks.f
 repeat' first
  | (with_reducible exact ih0 _ _ _ _ _ _ _)
  | (with_reducible exact ih1 _ _ _ _ _ _ _ _ _ _)
  | (with_reducible exact LeO.refl _)
  | (with_reducible exact LeO.none _)
  | (with_reducible refine LeO.ite ?_ ?_)
  | (with_reducible refine LeO.bind ?_ (fun _ => ?_))
  | exact ih0 _ _ _ _ _ _ _
  | exact ih1 _ _ _ _ _ _ _ _ _ _
  | exact LeO.none _
  | refine LeO.ite ?_ ?_
  | refine LeO.bind ?_ (fun _ => ?_)
set_option maxHeartbeats 8000000 in
set_option maxRecDepth 100000 in
theorem angeluslaw25_BoundClocks.calls (k : Nat) (D0 : Int) (D1 : Int) (D2 : Int) (D3 : Int) (A1 : Option Addr) (c1 : Nat) (l1 : List Int) (A2 : Option Addr) (c2 : Nat) (l2 : List Int) (r : Bool) (hr_ : Aside0 (r = true)) (w : World) (hr1 : Kd.C (Kd.int .i64) w A1 l1.length l1) (hc1 : l1.length ≤ c1) (hr2 : Kd.C (Kd.int .i64) w A2 l2.length l2) (hc2 : l2.length ≤ c2) (h : angeluslaw25_BoundClocks.f k D0 D1 D2 D3 l1 l2 = some r) :
 Calls Try.prog 3 #[.agg #[.int .i64 D0, .int .i64 D1, .int .i64 D2, .int .i64 D3], .slice A1 l1.length c1, .slice A2 l2.length c2] w fun e w' => e = .returned (.bool r) ∧ Below w.heap.size w w' := by
 have hu23 := Try.underlying23; have HR1 := As_ hr1; have HC1 := As_ hc1; clear hr1 hc1; have HR2 := As_ hr2; have HC2 := As_ hc2; clear hr2 hc2; have HB := As_ (Below.refl w.heap.size w); have H : ((angeluslaw25_alive.f).bind fun t116 => (if t116 = true then ((bound_Terms_Good.f D0 D1 D2 D3).bind fun t117 => (if t117 = true then (if (l1.length : Int) > 300 then (angeluslaw25_BoundClocks.j0 k l1 l2 true D0 D1 D2 D3) else (angeluslaw25_BoundClocks.j0 k l1 l2 (decide ((l2.length : Int) < (l1.length : Int))) D0 D1 D2 D3)) else (angeluslaw25_BoundClocks.j0 k l1 l2 true D0 D1 D2 D3))) else (some false))) = some r := h; clear h
 replace H := Option.bind_eq_some_iff.mp H
 obtain ⟨t116, A40, H⟩ := H
 replace H : (if t116 = true then ((bound_Terms_Good.f D0 D1 D2 D3).bind fun t117 => (if t117 = true then (if (l1.length : Int) > 300 then (angeluslaw25_BoundClocks.j0 k l1 l2 true D0 D1 D2 D3) else (angeluslaw25_BoundClocks.j0 k l1 l2 (decide ((l2.length : Int) < (l1.length : Int))) D0 D1 D2 D3)) else (angeluslaw25_BoundClocks.j0 k l1 l2 true D0 D1 D2 D3))) else (some false)) = some r := H
 have A4 := As_ A40; clear A40
 by_cases c5 : t116 = true
 rotate_left
 · replace c5 := Bool.eq_false_iff.mpr c5
   subst c5
   have H1 : (some false) = some r := by rw [if_neg (show ¬ (false = true) by decide)] at H; exact H
   clear H; have H := H1; clear H1; exact absurd ((Option.some.inj H).trans hr_.out) (by decide)
 subst c5
 have H1 : ((bound_Terms_Good.f D0 D1 D2 D3).bind fun t117 => (if t117 = true then (if (l1.length : Int) > 300 then (angeluslaw25_BoundClocks.j0 k l1 l2 true D0 D1 D2 D3) else (angeluslaw25_BoundClocks.j0 k l1 l2 (decide ((l2.length : Int) < (l1.length : Int))) D0 D1 D2 D3)) else (angeluslaw25_BoundClocks.j0 k l1 l2 true D0 D1 D2 D3))) = some r := by rw [if_pos rfl] at H; exact H
 clear H; have H := H1; clear H1; have HC6 := As_ H; clear H
 go_enter Try.func3, Try.ntmps3
 go_upto_region 3 with (first | ((with_reducible refine gate_dst (N := 3) rfl ?_); (try (refine gate_guard (by rfl) ?_; dsimp only)); refine box_event ?hg (N := 3) ?hd (cs := #[.int .i64 D0, .int .i64 D1, .int .i64 D2, .int .i64 D3]) (t := 23) ?hr ?_; (case hd => rfl); (case hg => rfl); (case hr => first | (go_simp; done) | (go_simp; rfl)); intro gb115 hg w7 hbox hb; have n0_ := As_ (below_step (by repeat (first | (with_reducible first | exact HB.out | apply below_alloc | apply pw_below_drewN | apply below_drew1) | exact HB.out)) hb); have n1_ := As_ (hbox); have n2_ := As_ ((by rw [hg]; exact (below_size (by repeat (first | (with_reducible first | exact HB.out | apply below_alloc | apply pw_below_drewN | apply below_drew1) | exact HB.out))) : w.heap.size ≤ gb115)); have n3_ := As_ ((by rw [hg]; exact (below_size (by repeat (first | (with_reducible first | exact HB.out | apply below_alloc | apply pw_below_drewN | apply below_drew1) | exact HB.out))) : w.heap.size ≤ gb115)); clear HB; have HB := n0_; have B115 := n1_; have GW115 := n2_; have GE115 := n3_; clear n0_ n1_ n2_ n3_; clear hb hbox hg) | (go_at_call 9; (with_reducible refine (angeluslaw25_alive.calls  true _ A4.out).mono ?_); rintro e w8 ⟨rfl, hb⟩; have n0_ := As_ (blk_below (g := gb115) (o := .cells #[.int .i64 D0, .int .i64 D1, .int .i64 D2, .int .i64 D3] 23 (0, 0)) (by (with_reducible repeat (first | refine bN_ ?_ _ | refine bD_ ?_ | refine bA_ ?_ _)); exact B115.out) hb); have n1_ := As_ (below_step (by repeat (first | (with_reducible first | exact HB.out | apply below_alloc | apply pw_below_drewN | apply below_drew1 | refine below_set ?_ GE115.out) | exact HB.out)) hb); clear B115; clear HB; have B115 := n0_; have HB := n1_; clear n0_ n1_; (try clear hb); (try clear hb2); (try clear hk); (try clear hi)))
 repeat (go_quiet (first | ((with_reducible refine gate_dst (N := 3) rfl ?_); (try (refine gate_guard (by rfl) ?_; dsimp only)); refine box_event ?hg (N := 3) ?hd (cs := #[.int .i64 D0, .int .i64 D1, .int .i64 D2, .int .i64 D3]) (t := 23) ?hr ?_; (case hd => rfl); (case hg => rfl); (case hr => first | (go_simp; done) | (go_simp; rfl)); intro gb115 hg w7 hbox hb; have n0_ := As_ (below_step (by repeat (first | (with_reducible first | exact HB.out | apply below_alloc | apply pw_below_drewN | apply below_drew1) | exact HB.out)) hb); have n1_ := As_ (hbox); have n2_ := As_ ((by rw [hg]; exact (below_size (by repeat (first | (with_reducible first | exact HB.out | apply below_alloc | apply pw_below_drewN | apply below_drew1) | exact HB.out))) : w.heap.size ≤ gb115)); have n3_ := As_ ((by rw [hg]; exact (below_size (by repeat (first | (with_reducible first | exact HB.out | apply below_alloc | apply pw_below_drewN | apply below_drew1) | exact HB.out))) : w.heap.size ≤ gb115)); clear HB; have HB := n0_; have B115 := n1_; have GW115 := n2_; have GE115 := n3_; clear n0_ n1_ n2_ n3_; clear hb hbox hg) | (go_at_call 9; (with_reducible refine (angeluslaw25_alive.calls  true _ A4.out).mono ?_); rintro e w8 ⟨rfl, hb⟩; have n0_ := As_ (blk_below (g := gb115) (o := .cells #[.int .i64 D0, .int .i64 D1, .int .i64 D2, .int .i64 D3] 23 (0, 0)) (by (with_reducible repeat (first | refine bN_ ?_ _ | refine bD_ ?_ | refine bA_ ?_ _)); exact B115.out) hb); have n1_ := As_ (below_step (by repeat (first | (with_reducible first | exact HB.out | apply below_alloc | apply pw_below_drewN | apply below_drew1 | refine below_set ?_ GE115.out) | exact HB.out)) hb); clear B115; clear HB; have B115 := n0_; have HB := n1_; clear n0_ n1_; (try clear hb); (try clear hb2); (try clear hk); (try clear hi))); go_upto_region 3 with (first | ((with_reducible refine gate_dst (N := 3) rfl ?_); (try (refine gate_guard (by rfl) ?_; dsimp only)); refine box_event ?hg (N := 3) ?hd (cs := #[.int .i64 D0, .int .i64 D1, .int .i64 D2, .int .i64 D3]) (t := 23) ?hr ?_; (case hd => rfl); (case hg => rfl); (case hr => first | (go_simp; done) | (go_simp; rfl)); intro gb115 hg w7 hbox hb; have n0_ := As_ (below_step (by repeat (first | (with_reducible first | exact HB.out | apply below_alloc | apply pw_below_drewN | apply below_drew1) | exact HB.out)) hb); have n1_ := As_ (hbox); have n2_ := As_ ((by rw [hg]; exact (below_size (by repeat (first | (with_reducible first | exact HB.out | apply below_alloc | apply pw_below_drewN | apply below_drew1) | exact HB.out))) : w.heap.size ≤ gb115)); have n3_ := As_ ((by rw [hg]; exact (below_size (by repeat (first | (with_reducible first | exact HB.out | apply below_alloc | apply pw_below_drewN | apply below_drew1) | exact HB.out))) : w.heap.size ≤ gb115)); clear HB; have HB := n0_; have B115 := n1_; have GW115 := n2_; have GE115 := n3_; clear n0_ n1_ n2_ n3_; clear hb hbox hg) | (go_at_call 9; (with_reducible refine (angeluslaw25_alive.calls  true _ A4.out).mono ?_); rintro e w8 ⟨rfl, hb⟩; have n0_ := As_ (blk_below (g := gb115) (o := .cells #[.int .i64 D0, .int .i64 D1, .int .i64 D2, .int .i64 D3] 23 (0, 0)) (by (with_reducible repeat (first | refine bN_ ?_ _ | refine bD_ ?_ | refine bA_ ?_ _)); exact B115.out) hb); have n1_ := As_ (below_step (by repeat (first | (with_reducible first | exact HB.out | apply below_alloc | apply pw_below_drewN | apply below_drew1 | refine below_set ?_ GE115.out) | exact HB.out)) hb); clear B115; clear HB; have B115 := n0_; have HB := n1_; clear n0_ n1_; (try clear hb); (try clear hb2); (try clear hk); (try clear hi))))
 (try simp only [Act.put, setIfInBounds_toArray, set_cons_zero, set_cons_succ])
 go_cut [28] (fun v28 wc => ∃ (kq : Nat) (x28_5 : Bool), v28 = .bool x28_5 ∧ Aside0 (angeluslaw25_BoundClocks.j0 kq l1 l2 x28_5 D0 D1 D2 D3 = some r) ∧ Aside0 (kq ≤ k) ∧ Aside0 (wc.heap[gb115]? = some (.cells #[.int .i64 D0, .int .i64 D1, .int .i64 D2, .int .i64 D3] 23 (0, 0))) ∧ Aside0 (Below w.heap.size w wc))
 case first =>
  have H := HC6.out; clear HC6
  replace H := Option.bind_eq_some_iff.mp H
  obtain ⟨t117, A90, H⟩ := H
  replace H : (if t117 = true then (if (l1.length : Int) > 300 then (angeluslaw25_BoundClocks.j0 k l1 l2 true D0 D1 D2 D3) else (angeluslaw25_BoundClocks.j0 k l1 l2 (decide ((l2.length : Int) < (l1.length : Int))) D0 D1 D2 D3)) else (angeluslaw25_BoundClocks.j0 k l1 l2 true D0 D1 D2 D3)) = some r := H
  have A9 := As_ A90; clear A90
  by_cases c10 : t117 = true
  rotate_left
  · replace c10 := Bool.eq_false_iff.mpr c10
    subst c10
    have H1 : (angeluslaw25_BoundClocks.j0 k l1 l2 true D0 D1 D2 D3) = some r := by rw [if_neg (show ¬ (false = true) by decide)] at H; exact H
    clear H; have H := H1; clear H1; have H' := As_ H; clear H; have hcz16_0 : w8.cell? ⟨gb115, 0, none⟩ = some (.int .i64 D0) := (blk_cell B115.out 0).trans rfl; have hcz16_1 : w8.cell? ⟨gb115, 1, none⟩ = some (.int .i64 D1) := (blk_cell B115.out 1).trans rfl; have hcz16_2 : w8.cell? ⟨gb115, 2, none⟩ = some (.int .i64 D2) := (blk_cell B115.out 2).trans rfl; have hcz16_3 : w8.cell? ⟨gb115, 3, none⟩ = some (.int .i64 D3) := (blk_cell B115.out 3).trans rfl; have hfz16_0 := blk_frozen B115.out 0; have hfz16_1 := blk_frozen B115.out 1; have hfz16_2 := blk_frozen B115.out 2; have hfz16_3 := blk_frozen B115.out 3
    go_wp2_with (first | (go_at_call 10; (with_reducible refine (bound_Terms_Good.calls D0 D1 D2 D3 false _ A9.out).mono ?_); rintro e w17 ⟨rfl, hb⟩; have n0_ := As_ (blk_below (g := gb115) (o := .cells #[.int .i64 D0, .int .i64 D1, .int .i64 D2, .int .i64 D3] 23 (0, 0)) (by (with_reducible repeat (first | refine bN_ ?_ _ | refine bD_ ?_ | refine bA_ ?_ _)); exact B115.out) hb); have n1_ := As_ (below_step (by repeat (first | (with_reducible first | exact HB.out | apply below_alloc | apply pw_below_drewN | apply below_drew1 | refine below_set ?_ GE115.out) | exact HB.out)) hb); clear B115; clear HB; have B115 := n0_; have HB := n1_; clear n0_ n1_; (try clear hb); (try clear hb2); (try clear hk); (try clear hi)))
    repeat (go_quiet (first | (go_at_call 10; (with_reducible refine (bound_Terms_Good.calls D0 D1 D2 D3 false _ A9.out).mono ?_); rintro e w17 ⟨rfl, hb⟩; have n0_ := As_ (blk_below (g := gb115) (o := .cells #[.int .i64 D0, .int .i64 D1, .int .i64 D2, .int .i64 D3] 23 (0, 0)) (by (with_reducible repeat (first | refine bN_ ?_ _ | refine bD_ ?_ | refine bA_ ?_ _)); exact B115.out) hb); have n1_ := As_ (below_step (by repeat (first | (with_reducible first | exact HB.out | apply below_alloc | apply pw_below_drewN | apply below_drew1 | refine below_set ?_ GE115.out) | exact HB.out)) hb); clear B115; clear HB; have B115 := n0_; have HB := n1_; clear n0_ n1_; (try clear hb); (try clear hb2); (try clear hk); (try clear hi))); try go_wp2_with (first | (go_at_call 10; (with_reducible refine (bound_Terms_Good.calls D0 D1 D2 D3 false _ A9.out).mono ?_); rintro e w17 ⟨rfl, hb⟩; have n0_ := As_ (blk_below (g := gb115) (o := .cells #[.int .i64 D0, .int .i64 D1, .int .i64 D2, .int .i64 D3] 23 (0, 0)) (by (with_reducible repeat (first | refine bN_ ?_ _ | refine bD_ ?_ | refine bA_ ?_ _)); exact B115.out) hb); have n1_ := As_ (below_step (by repeat (first | (with_reducible first | exact HB.out | apply below_alloc | apply pw_below_drewN | apply below_drew1 | refine below_set ?_ GE115.out) | exact HB.out)) hb); clear B115; clear HB; have B115 := n0_; have HB := n1_; clear n0_ n1_; (try clear hb); (try clear hb2); (try clear hk); (try clear hi))))
    go_meet
    case rel => exact ⟨_, (true), (by first | rfl | (simp; done) | (simp [*]; done)), H', ⟨by first | omega | exact Nat.le_refl _⟩, ⟨by (with_reducible repeat (first | refine bN_ ?_ _ | refine bD_ ?_ | refine bA_ ?_ _)); exact B115.out⟩, ⟨by repeat (first | (with_reducible first | exact HB.out | apply below_alloc | apply pw_below_drewN | apply below_drew1 | refine below_set ?_ GE115.out) | exact HB.out)⟩⟩
  subst c10
  have H1 : (if (l1.length : Int) > 300 then (angeluslaw25_BoundClocks.j0 k l1 l2 true D0 D1 D2 D3) else (angeluslaw25_BoundClocks.j0 k l1 l2 (decide ((l2.length : Int) < (l1.length : Int))) D0 D1 D2 D3)) = some r := by rw [if_pos rfl] at H; exact H
  clear H; have H := H1; clear H1
  by_cases c11 : (l1.length : Int) > 300
  · rw [if_pos c11] at H
    have c11b0 : decide (300 < (l1.length : Int)) = true := decide_eq_true c11; have c11b1 : decide (300 < l1.length) = true := decide_eq_true (by omega); clear c11; (first | rw [c11b0] | (simp only [i64_w, i32_w]; rw [c11b0]) | skip); have H' := As_ H; clear H; have hcz12_0 : w8.cell? ⟨gb115, 0, none⟩ = some (.int .i64 D0) := (blk_cell B115.out 0).trans rfl; have hcz12_1 : w8.cell? ⟨gb115, 1, none⟩ = some (.int .i64 D1) := (blk_cell B115.out 1).trans rfl; have hcz12_2 : w8.cell? ⟨gb115, 2, none⟩ = some (.int .i64 D2) := (blk_cell B115.out 2).trans rfl; have hcz12_3 : w8.cell? ⟨gb115, 3, none⟩ = some (.int .i64 D3) := (blk_cell B115.out 3).trans rfl; have hfz12_0 := blk_frozen B115.out 0; have hfz12_1 := blk_frozen B115.out 1; have hfz12_2 := blk_frozen B115.out 2; have hfz12_3 := blk_frozen B115.out 3
    go_wp2_with (first | (go_at_call 10; (with_reducible refine (bound_Terms_Good.calls D0 D1 D2 D3 true _ A9.out).mono ?_); rintro e w13 ⟨rfl, hb⟩; have n0_ := As_ (blk_below (g := gb115) (o := .cells #[.int .i64 D0, .int .i64 D1, .int .i64 D2, .int .i64 D3] 23 (0, 0)) (by (with_reducible repeat (first | refine bN_ ?_ _ | refine bD_ ?_ | refine bA_ ?_ _)); exact B115.out) hb); have n1_ := As_ (below_step (by repeat (first | (with_reducible first | exact HB.out | apply below_alloc | apply pw_below_drewN | apply below_drew1 | refine below_set ?_ GE115.out) | exact HB.out)) hb); clear B115; clear HB; have B115 := n0_; have HB := n1_; clear n0_ n1_; (try clear hb); (try clear hb2); (try clear hk); (try clear hi)))
    repeat (go_quiet (first | (go_at_call 10; (with_reducible refine (bound_Terms_Good.calls D0 D1 D2 D3 true _ A9.out).mono ?_); rintro e w13 ⟨rfl, hb⟩; have n0_ := As_ (blk_below (g := gb115) (o := .cells #[.int .i64 D0, .int .i64 D1, .int .i64 D2, .int .i64 D3] 23 (0, 0)) (by (with_reducible repeat (first | refine bN_ ?_ _ | refine bD_ ?_ | refine bA_ ?_ _)); exact B115.out) hb); have n1_ := As_ (below_step (by repeat (first | (with_reducible first | exact HB.out | apply below_alloc | apply pw_below_drewN | apply below_drew1 | refine below_set ?_ GE115.out) | exact HB.out)) hb); clear B115; clear HB; have B115 := n0_; have HB := n1_; clear n0_ n1_; (try clear hb); (try clear hb2); (try clear hk); (try clear hi))); try go_wp2_with (first | (go_at_call 10; (with_reducible refine (bound_Terms_Good.calls D0 D1 D2 D3 true _ A9.out).mono ?_); rintro e w13 ⟨rfl, hb⟩; have n0_ := As_ (blk_below (g := gb115) (o := .cells #[.int .i64 D0, .int .i64 D1, .int .i64 D2, .int .i64 D3] 23 (0, 0)) (by (with_reducible repeat (first | refine bN_ ?_ _ | refine bD_ ?_ | refine bA_ ?_ _)); exact B115.out) hb); have n1_ := As_ (below_step (by repeat (first | (with_reducible first | exact HB.out | apply below_alloc | apply pw_below_drewN | apply below_drew1 | refine below_set ?_ GE115.out) | exact HB.out)) hb); clear B115; clear HB; have B115 := n0_; have HB := n1_; clear n0_ n1_; (try clear hb); (try clear hb2); (try clear hk); (try clear hi))))
    go_meet
    case rel => exact ⟨_, (true), (by first | rfl | (simp; done) | (simp [*]; done)), H', ⟨by first | omega | exact Nat.le_refl _⟩, ⟨by (with_reducible repeat (first | refine bN_ ?_ _ | refine bD_ ?_ | refine bA_ ?_ _)); exact B115.out⟩, ⟨by repeat (first | (with_reducible first | exact HB.out | apply below_alloc | apply pw_below_drewN | apply below_drew1 | refine below_set ?_ GE115.out) | exact HB.out)⟩⟩
  rw [if_neg c11] at H
  have c11b0 : decide (300 < (l1.length : Int)) = false := decide_eq_false c11; have c11b1 : decide (300 < l1.length) = false := decide_eq_false (by omega); clear c11; (first | rw [c11b0] | (simp only [i64_w, i32_w]; rw [c11b0]) | skip); have H' := As_ H; clear H; have hcz14_0 : w8.cell? ⟨gb115, 0, none⟩ = some (.int .i64 D0) := (blk_cell B115.out 0).trans rfl; have hcz14_1 : w8.cell? ⟨gb115, 1, none⟩ = some (.int .i64 D1) := (blk_cell B115.out 1).trans rfl; have hcz14_2 : w8.cell? ⟨gb115, 2, none⟩ = some (.int .i64 D2) := (blk_cell B115.out 2).trans rfl; have hcz14_3 : w8.cell? ⟨gb115, 3, none⟩ = some (.int .i64 D3) := (blk_cell B115.out 3).trans rfl; have hfz14_0 := blk_frozen B115.out 0; have hfz14_1 := blk_frozen B115.out 1; have hfz14_2 := blk_frozen B115.out 2; have hfz14_3 := blk_frozen B115.out 3
  go_wp2_with (first | (go_at_call 10; (with_reducible refine (bound_Terms_Good.calls D0 D1 D2 D3 true _ A9.out).mono ?_); rintro e w15 ⟨rfl, hb⟩; have n0_ := As_ (blk_below (g := gb115) (o := .cells #[.int .i64 D0, .int .i64 D1, .int .i64 D2, .int .i64 D3] 23 (0, 0)) (by (with_reducible repeat (first | refine bN_ ?_ _ | refine bD_ ?_ | refine bA_ ?_ _)); exact B115.out) hb); have n1_ := As_ (below_step (by repeat (first | (with_reducible first | exact HB.out | apply below_alloc | apply pw_below_drewN | apply below_drew1 | refine below_set ?_ GE115.out) | exact HB.out)) hb); clear B115; clear HB; have B115 := n0_; have HB := n1_; clear n0_ n1_; (try clear hb); (try clear hb2); (try clear hk); (try clear hi)))
  repeat (go_quiet (first | (go_at_call 10; (with_reducible refine (bound_Terms_Good.calls D0 D1 D2 D3 true _ A9.out).mono ?_); rintro e w15 ⟨rfl, hb⟩; have n0_ := As_ (blk_below (g := gb115) (o := .cells #[.int .i64 D0, .int .i64 D1, .int .i64 D2, .int .i64 D3] 23 (0, 0)) (by (with_reducible repeat (first | refine bN_ ?_ _ | refine bD_ ?_ | refine bA_ ?_ _)); exact B115.out) hb); have n1_ := As_ (below_step (by repeat (first | (with_reducible first | exact HB.out | apply below_alloc | apply pw_below_drewN | apply below_drew1 | refine below_set ?_ GE115.out) | exact HB.out)) hb); clear B115; clear HB; have B115 := n0_; have HB := n1_; clear n0_ n1_; (try clear hb); (try clear hb2); (try clear hk); (try clear hi))); try go_wp2_with (first | (go_at_call 10; (with_reducible refine (bound_Terms_Good.calls D0 D1 D2 D3 true _ A9.out).mono ?_); rintro e w15 ⟨rfl, hb⟩; have n0_ := As_ (blk_below (g := gb115) (o := .cells #[.int .i64 D0, .int .i64 D1, .int .i64 D2, .int .i64 D3] 23 (0, 0)) (by (with_reducible repeat (first | refine bN_ ?_ _ | refine bD_ ?_ | refine bA_ ?_ _)); exact B115.out) hb); have n1_ := As_ (below_step (by repeat (first | (with_reducible first | exact HB.out | apply below_alloc | apply pw_below_drewN | apply below_drew1 | refine below_set ?_ GE115.out) | exact HB.out)) hb); clear B115; clear HB; have B115 := n0_; have HB := n1_; clear n0_ n1_; (try clear hb); (try clear hb2); (try clear hk); (try clear hi))))
  go_meet
  case rel => exact ⟨_, (decide ((l2.length : Int) < (l1.length : Int))), (by first | rfl | (simp; done) | (simp [*]; done)), H', ⟨by first | omega | exact Nat.le_refl _⟩, ⟨by (with_reducible repeat (first | refine bN_ ?_ _ | refine bD_ ?_ | refine bA_ ?_ _)); exact B115.out⟩, ⟨by repeat (first | (with_reducible first | exact HB.out | apply below_alloc | apply pw_below_drewN | apply below_drew1 | refine below_set ?_ GE115.out) | exact HB.out)⟩⟩
 case rest =>
  clear HC6
  try clear c1
  try clear c2
  try clear p2
  try clear c3
  try clear c5
  try clear c10
  try clear c11
  try clear c11b0
  try clear c11b1
  try clear hcz12_0
  try clear hcz12_1
  try clear hcz12_2
  try clear hcz12_3
  try clear hcz14_0
  try clear hcz14_1
  try clear hcz14_2
  try clear hcz14_3
  try clear hcz16_0
  try clear hcz16_1
  try clear hcz16_2
  try clear hcz16_3
  try clear hfz12_0
  try clear hfz12_1
  try clear hfz12_2
  try clear hfz12_3
  try clear hfz14_0
  try clear hfz14_1
  try clear hfz14_2
  try clear hfz14_3
  try clear hfz16_0
  try clear hfz16_1
  try clear hfz16_2
  try clear hfz16_3
  obtain ⟨kq, x28_5, rfl, HA, HJ5, B115, HB⟩ := hcut
  cases kq with
  | zero => exact absurd HA.out (by simp [angeluslaw25_BoundClocks.j0])
  | succ kj5 =>
   have H := HA.out; clear HA; simp only [angeluslaw25_BoundClocks.j0] at H
   by_cases c18 : x28_5 = true
   · subst c18
     have H1 : (some true) = some r := by rw [if_pos rfl] at H; exact H
     clear H; have H := H1; clear H1
     obtain rfl := Option.some.inj H
     go_wp2
     repeat (go_quiet (fail); try go_wp2)
     go_ret
     exact ⟨by first | rfl | (simp [errW_none, errW_some] <;> rfl) | (simp [*, errW_none, errW_some] <;> rfl), by repeat (first | (with_reducible first | exact HB.out | apply below_alloc | apply pw_below_drewN | apply below_drew1 | refine below_set ?_ GE115.out) | exact HB.out)⟩
   replace c18 := Bool.eq_false_iff.mpr c18
   subst c18
   have H1 : (angeluslaw25_BoundClocks.l0 kj5 l1 l2 0 0 (l1.length : Int) 0 D0 D1 D2 D3) = some r := by rw [if_neg (show ¬ (false = true) by decide)] at H; exact H
   clear H; have H := H1; clear H1; have H' := As_ H; clear H
   go_wp2
   repeat (go_quiet (fail); try go_wp2)
   go_loopg [7, 8, 31] kj5 (fun kq v7 v8 v31 w' => ∃ (x7_2 : Int) (x8_2 : Int) (x31_2 : Int), v7 = .int .i64 x7_2 ∧ v8 = .int .i64 x8_2 ∧ v31 = .int .i64 x31_2 ∧ Aside0 (angeluslaw25_BoundClocks.l0 kq l1 l2 x7_2 x8_2 (l1.length : Int) x31_2 D0 D1 D2 D3 = some r) ∧ Aside0 (kq ≤ kj5) ∧ Aside0 (w'.heap[gb115]? = some (.cells #[.int .i64 D0, .int .i64 D1, .int .i64 D2, .int .i64 D3] 23 (0, 0))) ∧ Aside0 (Below w.heap.size w w'))
   case atStart => exact ⟨(0), (0), (0), (by first | rfl | (simp; done) | (simp [*]; done)), (by first | rfl | (simp; done) | (simp [*]; done)), (by first | rfl | (simp; done) | (simp [*]; done)), H', ⟨Nat.le_refl _⟩, ⟨by (with_reducible repeat (first | refine bN_ ?_ _ | refine bD_ ?_ | refine bA_ ?_ _)); exact B115.out⟩, ⟨by repeat (first | (with_reducible first | exact HB.out | apply below_alloc | apply pw_below_drewN | apply below_drew1 | refine below_set ?_ GE115.out) | exact HB.out)⟩⟩
   case round =>
    clear H'
    try clear c1
    try clear c2
    try clear p2
    try clear c3
    try clear c5
    try clear c10
    try clear c11
    try clear c11b0
    try clear c11b1
    try clear c18
    try clear hcz12_0
    try clear hcz12_1
    try clear hcz12_2
    try clear hcz12_3
    try clear hcz14_0
    try clear hcz14_1
    try clear hcz14_2
    try clear hcz14_3
    try clear hcz16_0
    try clear hcz16_1
    try clear hcz16_2
    try clear hcz16_3
    try clear hfz12_0
    try clear hfz12_1
    try clear hfz12_2
    try clear hfz12_3
    try clear hfz14_0
    try clear hfz14_1
    try clear hfz14_2
    try clear hfz14_3
    try clear hfz16_0
    try clear hfz16_1
    try clear hfz16_2
    try clear hfz16_3
    try clear p2
    obtain ⟨x7_2, x8_2, x31_2, rfl, rfl, rfl, HA, HK2, B115, HB⟩ := hrel
    cases gk with
    | zero => exact absurd HA.out (by simp [angeluslaw25_BoundClocks.l0])
    | succ k2 =>
     have H := HA.out; clear HA; simp only [angeluslaw25_BoundClocks.l0] at H
     by_cases c19 : x31_2 < (l1.length : Int)
     rotate_left
     · rw [if_neg c19] at H
       have c19b0 : decide (x31_2 < (l1.length : Int)) = false := decide_eq_false c19; clear c19
       by_cases c32 : D3 = 0
       · rw [if_pos c32] at H
         exact absurd H (by simp)
       rw [if_neg c32] at H
       have c32b0 : (D3 == 0) = false := beq_eq_false_iff_ne.mpr c32; have c32b1 : (D3 != 0) = true := bne_iff_ne.mpr c32
       replace H := Option.bind_eq_some_iff.mp H
       obtain ⟨t124, A330, H⟩ := H
       replace H : (if x7_2 ≤ t124 then ((bound_Terms_Lag.f D0 D1 D2 D3 (wrap64 (Int.tdiv (wrap64 ((wrap64 ((l1.length : Int) + D3)) - 1)) D3))).bind fun t125 => (if (wrap64 (x7_2 - x8_2)) ≤ t125 then ((bound_Terms_Lag.f D0 D1 D2 D3 (wrap64 (Int.tdiv (wrap64 ((wrap64 ((l1.length : Int) + D3)) - 1)) D3))).bind fun t126 => (some (decide ((wrap64 (-(wrap64 (x7_2 - x8_2)))) ≤ t126)))) else (some false))) else (some false)) = some r := H
       have A33 := As_ A330; clear A330
       by_cases c34 : x7_2 ≤ t124
       rotate_left
       · rw [if_neg c34] at H
         have c34b0 : decide (x7_2 ≤ t124) = false := decide_eq_false c34; clear c34; exact absurd ((Option.some.inj H).trans hr_.out) (by decide)
       rw [if_pos c34] at H
       have c34b0 : decide (x7_2 ≤ t124) = true := decide_eq_true c34; clear c34
       replace H := Option.bind_eq_some_iff.mp H
       obtain ⟨t125, A350, H⟩ := H
       replace H : (if (wrap64 (x7_2 - x8_2)) ≤ t125 then ((bound_Terms_Lag.f D0 D1 D2 D3 (wrap64 (Int.tdiv (wrap64 ((wrap64 ((l1.length : Int) + D3)) - 1)) D3))).bind fun t126 => (some (decide ((wrap64 (-(wrap64 (x7_2 - x8_2)))) ≤ t126)))) else (some false)) = some r := H
       have A35 := As_ A350; clear A350
       by_cases c36 : (wrap64 (x7_2 - x8_2)) ≤ t125
       rotate_left
       · rw [if_neg c36] at H
         have c36b0 : decide ((wrap64 (x7_2 - x8_2)) ≤ t125) = false := decide_eq_false c36; clear c36; exact absurd ((Option.some.inj H).trans hr_.out) (by decide)
       rw [if_pos c36] at H
       have c36b0 : decide ((wrap64 (x7_2 - x8_2)) ≤ t125) = true := decide_eq_true c36; clear c36
       replace H := Option.bind_eq_some_iff.mp H
       obtain ⟨t126, A370, H⟩ := H
       replace H : (some (decide ((wrap64 (-(wrap64 (x7_2 - x8_2)))) ≤ t126))) = some r := H
       have A37 := As_ A370; clear A370
       obtain rfl := Option.some.inj H
       have hcz38_0 : wr.cell? ⟨gb115, 0, none⟩ = some (.int .i64 D0) := (blk_cell B115.out 0).trans rfl; have hcz38_1 : wr.cell? ⟨gb115, 1, none⟩ = some (.int .i64 D1) := (blk_cell B115.out 1).trans rfl; have hcz38_2 : wr.cell? ⟨gb115, 2, none⟩ = some (.int .i64 D2) := (blk_cell B115.out 2).trans rfl; have hcz38_3 : wr.cell? ⟨gb115, 3, none⟩ = some (.int .i64 D3) := (blk_cell B115.out 3).trans rfl; have hfz38_0 := blk_frozen B115.out 0; have hfz38_1 := blk_frozen B115.out 1; have hfz38_2 := blk_frozen B115.out 2; have hfz38_3 := blk_frozen B115.out 3
       obtain rfl : t125 = t126 := Option.some.inj (A35.out.symm.trans A37.out)
       go_wp2_with (first | (go_at_call 11; (with_reducible refine (bound_Terms_Ticks.calls D0 D1 D2 D3 (wrap64 (Int.tdiv (wrap64 ((wrap64 ((l1.length : Int) + D3)) - 1)) D3)) t124 _ A33.out).mono ?_); rintro e w39 ⟨rfl, hb⟩; have n0_ := As_ (blk_below (g := gb115) (o := .cells #[.int .i64 D0, .int .i64 D1, .int .i64 D2, .int .i64 D3] 23 (0, 0)) (by (with_reducible repeat (first | refine bN_ ?_ _ | refine bD_ ?_ | refine bA_ ?_ _)); exact B115.out) hb); have n1_ := As_ (below_step (by repeat (first | (with_reducible first | exact HB.out | apply below_alloc | apply pw_below_drewN | apply below_drew1 | refine below_set ?_ GE115.out) | exact HB.out)) hb); clear B115; clear HB; have B115 := n0_; have HB := n1_; clear n0_ n1_; (try clear hb); (try clear hb2); (try clear hk); (try clear hi); have hcz40_0 : w39.cell? ⟨gb115, 0, none⟩ = some (.int .i64 D0) := (blk_cell B115.out 0).trans rfl; have hcz40_1 : w39.cell? ⟨gb115, 1, none⟩ = some (.int .i64 D1) := (blk_cell B115.out 1).trans rfl; have hcz40_2 : w39.cell? ⟨gb115, 2, none⟩ = some (.int .i64 D2) := (blk_cell B115.out 2).trans rfl; have hcz40_3 : w39.cell? ⟨gb115, 3, none⟩ = some (.int .i64 D3) := (blk_cell B115.out 3).trans rfl; have hfz40_0 := blk_frozen B115.out 0; have hfz40_1 := blk_frozen B115.out 1; have hfz40_2 := blk_frozen B115.out 2; have hfz40_3 := blk_frozen B115.out 3) | (go_at_call 12; (with_reducible refine (bound_Terms_Lag.calls D0 D1 D2 D3 (wrap64 (Int.tdiv (wrap64 ((wrap64 ((l1.length : Int) + D3)) - 1)) D3)) t125 _ A35.out).mono ?_); rintro e w41 ⟨rfl, hb⟩; have n0_ := As_ (blk_below (g := gb115) (o := .cells #[.int .i64 D0, .int .i64 D1, .int .i64 D2, .int .i64 D3] 23 (0, 0)) (by (with_reducible repeat (first | refine bN_ ?_ _ | refine bD_ ?_ | refine bA_ ?_ _)); exact B115.out) hb); have n1_ := As_ (below_step (by repeat (first | (with_reducible first | exact HB.out | apply below_alloc | apply pw_below_drewN | apply below_drew1 | refine below_set ?_ GE115.out) | exact HB.out)) hb); clear B115; clear HB; have B115 := n0_; have HB := n1_; clear n0_ n1_; (try clear hb); (try clear hb2); (try clear hk); (try clear hi); have hcz42_0 : w41.cell? ⟨gb115, 0, none⟩ = some (.int .i64 D0) := (blk_cell B115.out 0).trans rfl; have hcz42_1 : w41.cell? ⟨gb115, 1, none⟩ = some (.int .i64 D1) := (blk_cell B115.out 1).trans rfl; have hcz42_2 : w41.cell? ⟨gb115, 2, none⟩ = some (.int .i64 D2) := (blk_cell B115.out 2).trans rfl; have hcz42_3 : w41.cell? ⟨gb115, 3, none⟩ = some (.int .i64 D3) := (blk_cell B115.out 3).trans rfl; have hfz42_0 := blk_frozen B115.out 0; have hfz42_1 := blk_frozen B115.out 1; have hfz42_2 := blk_frozen B115.out 2; have hfz42_3 := blk_frozen B115.out 3) | (go_at_call 12; (with_reducible refine (bound_Terms_Lag.calls D0 D1 D2 D3 (wrap64 (Int.tdiv (wrap64 ((wrap64 ((l1.length : Int) + D3)) - 1)) D3)) t125 _ A37.out).mono ?_); rintro e w43 ⟨rfl, hb⟩; have n0_ := As_ (blk_below (g := gb115) (o := .cells #[.int .i64 D0, .int .i64 D1, .int .i64 D2, .int .i64 D3] 23 (0, 0)) (by (with_reducible repeat (first | refine bN_ ?_ _ | refine bD_ ?_ | refine bA_ ?_ _)); exact B115.out) hb); have n1_ := As_ (below_step (by repeat (first | (with_reducible first | exact HB.out | apply below_alloc | apply pw_below_drewN | apply below_drew1 | refine below_set ?_ GE115.out) | exact HB.out)) hb); clear B115; clear HB; have B115 := n0_; have HB := n1_; clear n0_ n1_; (try clear hb); (try clear hb2); (try clear hk); (try clear hi)))
       repeat (go_quiet (first | (go_at_call 11; (with_reducible refine (bound_Terms_Ticks.calls D0 D1 D2 D3 (wrap64 (Int.tdiv (wrap64 ((wrap64 ((l1.length : Int) + D3)) - 1)) D3)) t124 _ A33.out).mono ?_); rintro e w39 ⟨rfl, hb⟩; have n0_ := As_ (blk_below (g := gb115) (o := .cells #[.int .i64 D0, .int .i64 D1, .int .i64 D2, .int .i64 D3] 23 (0, 0)) (by (with_reducible repeat (first | refine bN_ ?_ _ | refine bD_ ?_ | refine bA_ ?_ _)); exact B115.out) hb); have n1_ := As_ (below_step (by repeat (first | (with_reducible first | exact HB.out | apply below_alloc | apply pw_below_drewN | apply below_drew1 | refine below_set ?_ GE115.out) | exact HB.out)) hb); clear B115; clear HB; have B115 := n0_; have HB := n1_; clear n0_ n1_; (try clear hb); (try clear hb2); (try clear hk); (try clear hi); have hcz40_0 : w39.cell? ⟨gb115, 0, none⟩ = some (.int .i64 D0) := (blk_cell B115.out 0).trans rfl; have hcz40_1 : w39.cell? ⟨gb115, 1, none⟩ = some (.int .i64 D1) := (blk_cell B115.out 1).trans rfl; have hcz40_2 : w39.cell? ⟨gb115, 2, none⟩ = some (.int .i64 D2) := (blk_cell B115.out 2).trans rfl; have hcz40_3 : w39.cell? ⟨gb115, 3, none⟩ = some (.int .i64 D3) := (blk_cell B115.out 3).trans rfl; have hfz40_0 := blk_frozen B115.out 0; have hfz40_1 := blk_frozen B115.out 1; have hfz40_2 := blk_frozen B115.out 2; have hfz40_3 := blk_frozen B115.out 3) | (go_at_call 12; (with_reducible refine (bound_Terms_Lag.calls D0 D1 D2 D3 (wrap64 (Int.tdiv (wrap64 ((wrap64 ((l1.length : Int) + D3)) - 1)) D3)) t125 _ A35.out).mono ?_); rintro e w41 ⟨rfl, hb⟩; have n0_ := As_ (blk_below (g := gb115) (o := .cells #[.int .i64 D0, .int .i64 D1, .int .i64 D2, .int .i64 D3] 23 (0, 0)) (by (with_reducible repeat (first | refine bN_ ?_ _ | refine bD_ ?_ | refine bA_ ?_ _)); exact B115.out) hb); have n1_ := As_ (below_step (by repeat (first | (with_reducible first | exact HB.out | apply below_alloc | apply pw_below_drewN | apply below_drew1 | refine below_set ?_ GE115.out) | exact HB.out)) hb); clear B115; clear HB; have B115 := n0_; have HB := n1_; clear n0_ n1_; (try clear hb); (try clear hb2); (try clear hk); (try clear hi); have hcz42_0 : w41.cell? ⟨gb115, 0, none⟩ = some (.int .i64 D0) := (blk_cell B115.out 0).trans rfl; have hcz42_1 : w41.cell? ⟨gb115, 1, none⟩ = some (.int .i64 D1) := (blk_cell B115.out 1).trans rfl; have hcz42_2 : w41.cell? ⟨gb115, 2, none⟩ = some (.int .i64 D2) := (blk_cell B115.out 2).trans rfl; have hcz42_3 : w41.cell? ⟨gb115, 3, none⟩ = some (.int .i64 D3) := (blk_cell B115.out 3).trans rfl; have hfz42_0 := blk_frozen B115.out 0; have hfz42_1 := blk_frozen B115.out 1; have hfz42_2 := blk_frozen B115.out 2; have hfz42_3 := blk_frozen B115.out 3) | (go_at_call 12; (with_reducible refine (bound_Terms_Lag.calls D0 D1 D2 D3 (wrap64 (Int.tdiv (wrap64 ((wrap64 ((l1.length : Int) + D3)) - 1)) D3)) t125 _ A37.out).mono ?_); rintro e w43 ⟨rfl, hb⟩; have n0_ := As_ (blk_below (g := gb115) (o := .cells #[.int .i64 D0, .int .i64 D1, .int .i64 D2, .int .i64 D3] 23 (0, 0)) (by (with_reducible repeat (first | refine bN_ ?_ _ | refine bD_ ?_ | refine bA_ ?_ _)); exact B115.out) hb); have n1_ := As_ (below_step (by repeat (first | (with_reducible first | exact HB.out | apply below_alloc | apply pw_below_drewN | apply below_drew1 | refine below_set ?_ GE115.out) | exact HB.out)) hb); clear B115; clear HB; have B115 := n0_; have HB := n1_; clear n0_ n1_; (try clear hb); (try clear hb2); (try clear hk); (try clear hi))); try go_wp2_with (first | (go_at_call 11; (with_reducible refine (bound_Terms_Ticks.calls D0 D1 D2 D3 (wrap64 (Int.tdiv (wrap64 ((wrap64 ((l1.length : Int) + D3)) - 1)) D3)) t124 _ A33.out).mono ?_); rintro e w39 ⟨rfl, hb⟩; have n0_ := As_ (blk_below (g := gb115) (o := .cells #[.int .i64 D0, .int .i64 D1, .int .i64 D2, .int .i64 D3] 23 (0, 0)) (by (with_reducible repeat (first | refine bN_ ?_ _ | refine bD_ ?_ | refine bA_ ?_ _)); exact B115.out) hb); have n1_ := As_ (below_step (by repeat (first | (with_reducible first | exact HB.out | apply below_alloc | apply pw_below_drewN | apply below_drew1 | refine below_set ?_ GE115.out) | exact HB.out)) hb); clear B115; clear HB; have B115 := n0_; have HB := n1_; clear n0_ n1_; (try clear hb); (try clear hb2); (try clear hk); (try clear hi); have hcz40_0 : w39.cell? ⟨gb115, 0, none⟩ = some (.int .i64 D0) := (blk_cell B115.out 0).trans rfl; have hcz40_1 : w39.cell? ⟨gb115, 1, none⟩ = some (.int .i64 D1) := (blk_cell B115.out 1).trans rfl; have hcz40_2 : w39.cell? ⟨gb115, 2, none⟩ = some (.int .i64 D2) := (blk_cell B115.out 2).trans rfl; have hcz40_3 : w39.cell? ⟨gb115, 3, none⟩ = some (.int .i64 D3) := (blk_cell B115.out 3).trans rfl; have hfz40_0 := blk_frozen B115.out 0; have hfz40_1 := blk_frozen B115.out 1; have hfz40_2 := blk_frozen B115.out 2; have hfz40_3 := blk_frozen B115.out 3) | (go_at_call 12; (with_reducible refine (bound_Terms_Lag.calls D0 D1 D2 D3 (wrap64 (Int.tdiv (wrap64 ((wrap64 ((l1.length : Int) + D3)) - 1)) D3)) t125 _ A35.out).mono ?_); rintro e w41 ⟨rfl, hb⟩; have n0_ := As_ (blk_below (g := gb115) (o := .cells #[.int .i64 D0, .int .i64 D1, .int .i64 D2, .int .i64 D3] 23 (0, 0)) (by (with_reducible repeat (first | refine bN_ ?_ _ | refine bD_ ?_ | refine bA_ ?_ _)); exact B115.out) hb); have n1_ := As_ (below_step (by repeat (first | (with_reducible first | exact HB.out | apply below_alloc | apply pw_below_drewN | apply below_drew1 | refine below_set ?_ GE115.out) | exact HB.out)) hb); clear B115; clear HB; have B115 := n0_; have HB := n1_; clear n0_ n1_; (try clear hb); (try clear hb2); (try clear hk); (try clear hi); have hcz42_0 : w41.cell? ⟨gb115, 0, none⟩ = some (.int .i64 D0) := (blk_cell B115.out 0).trans rfl; have hcz42_1 : w41.cell? ⟨gb115, 1, none⟩ = some (.int .i64 D1) := (blk_cell B115.out 1).trans rfl; have hcz42_2 : w41.cell? ⟨gb115, 2, none⟩ = some (.int .i64 D2) := (blk_cell B115.out 2).trans rfl; have hcz42_3 : w41.cell? ⟨gb115, 3, none⟩ = some (.int .i64 D3) := (blk_cell B115.out 3).trans rfl; have hfz42_0 := blk_frozen B115.out 0; have hfz42_1 := blk_frozen B115.out 1; have hfz42_2 := blk_frozen B115.out 2; have hfz42_3 := blk_frozen B115.out 3) | (go_at_call 12; (with_reducible refine (bound_Terms_Lag.calls D0 D1 D2 D3 (wrap64 (Int.tdiv (wrap64 ((wrap64 ((l1.length : Int) + D3)) - 1)) D3)) t125 _ A37.out).mono ?_); rintro e w43 ⟨rfl, hb⟩; have n0_ := As_ (blk_below (g := gb115) (o := .cells #[.int .i64 D0, .int .i64 D1, .int .i64 D2, .int .i64 D3] 23 (0, 0)) (by (with_reducible repeat (first | refine bN_ ?_ _ | refine bD_ ?_ | refine bA_ ?_ _)); exact B115.out) hb); have n1_ := As_ (below_step (by repeat (first | (with_reducible first | exact HB.out | apply below_alloc | apply pw_below_drewN | apply below_drew1 | refine below_set ?_ GE115.out) | exact HB.out)) hb); clear B115; clear HB; have B115 := n0_; have HB := n1_; clear n0_ n1_; (try clear hb); (try clear hb2); (try clear hk); (try clear hi))))
       go_ret
       exact ⟨by first | rfl | (simp [errW_none, errW_some] <;> rfl) | (simp [*, errW_none, errW_some] <;> rfl), by repeat (first | (with_reducible first | exact HB.out | apply below_alloc | apply pw_below_drewN | apply below_drew1 | refine below_set ?_ GE115.out) | exact HB.out)⟩
     rw [if_pos c19] at H
     have c19b0 : decide (x31_2 < (l1.length : Int)) = true := decide_eq_true c19; clear c19
     by_cases c20 : 0 ≤ x31_2
     rotate_left
     · rw [if_neg c20] at H
       exact absurd H (by simp)
     rw [if_pos c20] at H
     have c20b0 : decide (0 ≤ x31_2) = true := decide_eq_true c20; clear c20
     by_cases c21 : x31_2 < (l1.length : Int)
     rotate_left
     · rw [if_neg c21] at H
       exact absurd H (by simp)
     rw [if_pos c21] at H
     have c21b0 : decide (x31_2 < (l1.length : Int)) = true := decide_eq_true c21; clear c21
     by_cases c22 : (rd l1 x31_2) < (wrap64 (1000 - D0))
     · rw [if_pos c22] at H
       have c22b0 : decide ((rd l1 x31_2) < (wrap64 (1000 - D0))) = true := decide_eq_true c22; clear c22
       obtain rfl := Option.some.inj H
       have p118 : 0 ≤ (x31_2 : Int) := of_decide_eq_true (by first | (with_reducible assumption) | assumption); have q118 : x31_2 < (l1.length : Int) := of_decide_eq_true (by first | (with_reducible assumption) | assumption)
       obtain ⟨ad118, e118, hx118_0⟩ := Kd.at_int HR1.out x31_2 p118 q118
       cases e118
       replace hx118_0 := (HB.out.cell (World.block_lt_of_cell? w _ hx118_0)).trans hx118_0
       replace p118 := eq_true p118
       replace q118 := eq_true q118
       have hcz23_0 : wr.cell? ⟨gb115, 0, none⟩ = some (.int .i64 D0) := (blk_cell B115.out 0).trans rfl; have hcz23_1 : wr.cell? ⟨gb115, 1, none⟩ = some (.int .i64 D1) := (blk_cell B115.out 1).trans rfl; have hcz23_2 : wr.cell? ⟨gb115, 2, none⟩ = some (.int .i64 D2) := (blk_cell B115.out 2).trans rfl; have hcz23_3 : wr.cell? ⟨gb115, 3, none⟩ = some (.int .i64 D3) := (blk_cell B115.out 3).trans rfl; have hfz23_0 := blk_frozen B115.out 0; have hfz23_1 := blk_frozen B115.out 1; have hfz23_2 := blk_frozen B115.out 2; have hfz23_3 := blk_frozen B115.out 3
       go_wp2
       repeat (go_quiet (fail); try go_wp2)
       go_ret
       exact ⟨by first | rfl | (simp [errW_none, errW_some] <;> rfl) | (simp [*, errW_none, errW_some] <;> rfl), by repeat (first | (with_reducible first | exact HB.out | apply below_alloc | apply pw_below_drewN | apply below_drew1 | refine below_set ?_ GE115.out) | exact HB.out)⟩
     rw [if_neg c22] at H
     have c22b0 : decide ((rd l1 x31_2) < (wrap64 (1000 - D0))) = false := decide_eq_false c22; clear c22
     by_cases c24 : (rd l1 x31_2) > (wrap64 (1000 + D0))
     · rw [if_pos c24] at H
       have c24b0 : decide ((wrap64 (1000 + D0)) < (rd l1 x31_2)) = true := decide_eq_true c24; clear c24
       obtain rfl := Option.some.inj H
       have p118 : 0 ≤ (x31_2 : Int) := of_decide_eq_true (by first | (with_reducible assumption) | assumption); have q118 : x31_2 < (l1.length : Int) := of_decide_eq_true (by first | (with_reducible assumption) | assumption)
       obtain ⟨ad118, e118, hx118_0⟩ := Kd.at_int HR1.out x31_2 p118 q118
       cases e118
       replace hx118_0 := (HB.out.cell (World.block_lt_of_cell? w _ hx118_0)).trans hx118_0
       replace p118 := eq_true p118
       replace q118 := eq_true q118
       have hcz25_0 : wr.cell? ⟨gb115, 0, none⟩ = some (.int .i64 D0) := (blk_cell B115.out 0).trans rfl; have hcz25_1 : wr.cell? ⟨gb115, 1, none⟩ = some (.int .i64 D1) := (blk_cell B115.out 1).trans rfl; have hcz25_2 : wr.cell? ⟨gb115, 2, none⟩ = some (.int .i64 D2) := (blk_cell B115.out 2).trans rfl; have hcz25_3 : wr.cell? ⟨gb115, 3, none⟩ = some (.int .i64 D3) := (blk_cell B115.out 3).trans rfl; have hfz25_0 := blk_frozen B115.out 0; have hfz25_1 := blk_frozen B115.out 1; have hfz25_2 := blk_frozen B115.out 2; have hfz25_3 := blk_frozen B115.out 3; have p119 : 0 ≤ (x31_2 : Int) := of_decide_eq_true (by first | (with_reducible assumption) | assumption); have q119 : x31_2 < (l1.length : Int) := of_decide_eq_true (by first | (with_reducible assumption) | assumption)
       obtain ⟨ad119, e119, hx119_0⟩ := Kd.at_int HR1.out x31_2 p119 q119
       obtain rfl : ad118 = ad119 := (by injection e119)
       replace hx119_0 := (HB.out.cell (World.block_lt_of_cell? w _ hx119_0)).trans hx119_0
       replace p119 := eq_true p119
       replace q119 := eq_true q119
       go_wp2
       repeat (go_quiet (fail); try go_wp2)
       go_ret
       exact ⟨by first | rfl | (simp [errW_none, errW_some] <;> rfl) | (simp [*, errW_none, errW_some] <;> rfl), by repeat (first | (with_reducible first | exact HB.out | apply below_alloc | apply pw_below_drewN | apply below_drew1 | refine below_set ?_ GE115.out) | exact HB.out)⟩
     rw [if_neg c24] at H
     have c24b0 : decide ((wrap64 (1000 + D0)) < (rd l1 x31_2)) = false := decide_eq_false c24; clear c24
     by_cases c26 : x31_2 < (l2.length : Int)
     rotate_left
     · rw [if_neg c26] at H
       exact absurd H (by simp)
     rw [if_pos c26] at H
     have c26b0 : decide (x31_2 < (l2.length : Int)) = true := decide_eq_true c26; clear c26
     by_cases c27 : (rd l2 x31_2) < (wrap64 (1000 - D0))
     · rw [if_pos c27] at H
       have c27b0 : decide ((rd l2 x31_2) < (wrap64 (1000 - D0))) = true := decide_eq_true c27; clear c27
       obtain rfl := Option.some.inj H
       have p118 : 0 ≤ (x31_2 : Int) := of_decide_eq_true (by first | (with_reducible assumption) | assumption); have q118 : x31_2 < (l1.length : Int) := of_decide_eq_true (by first | (with_reducible assumption) | assumption)
       obtain ⟨ad118, e118, hx118_0⟩ := Kd.at_int HR1.out x31_2 p118 q118
       cases e118
       replace hx118_0 := (HB.out.cell (World.block_lt_of_cell? w _ hx118_0)).trans hx118_0
       replace p118 := eq_true p118
       replace q118 := eq_true q118
       have hcz28_0 : wr.cell? ⟨gb115, 0, none⟩ = some (.int .i64 D0) := (blk_cell B115.out 0).trans rfl; have hcz28_1 : wr.cell? ⟨gb115, 1, none⟩ = some (.int .i64 D1) := (blk_cell B115.out 1).trans rfl; have hcz28_2 : wr.cell? ⟨gb115, 2, none⟩ = some (.int .i64 D2) := (blk_cell B115.out 2).trans rfl; have hcz28_3 : wr.cell? ⟨gb115, 3, none⟩ = some (.int .i64 D3) := (blk_cell B115.out 3).trans rfl; have hfz28_0 := blk_frozen B115.out 0; have hfz28_1 := blk_frozen B115.out 1; have hfz28_2 := blk_frozen B115.out 2; have hfz28_3 := blk_frozen B115.out 3; have p119 : 0 ≤ (x31_2 : Int) := of_decide_eq_true (by first | (with_reducible assumption) | assumption); have q119 : x31_2 < (l1.length : Int) := of_decide_eq_true (by first | (with_reducible assumption) | assumption)
       obtain ⟨ad119, e119, hx119_0⟩ := Kd.at_int HR1.out x31_2 p119 q119
       obtain rfl : ad118 = ad119 := (by injection e119)
       replace hx119_0 := (HB.out.cell (World.block_lt_of_cell? w _ hx119_0)).trans hx119_0
       replace p119 := eq_true p119
       replace q119 := eq_true q119
       have p120 : 0 ≤ (x31_2 : Int) := of_decide_eq_true (by first | (with_reducible assumption) | assumption); have q120 : x31_2 < (l2.length : Int) := of_decide_eq_true (by first | (with_reducible assumption) | assumption)
       obtain ⟨ad120, e120, hx120_0⟩ := Kd.at_int HR2.out x31_2 p120 q120
       cases e120
       replace hx120_0 := (HB.out.cell (World.block_lt_of_cell? w _ hx120_0)).trans hx120_0
       replace p120 := eq_true p120
       replace q120 := eq_true q120
       go_wp2
       repeat (go_quiet (fail); try go_wp2)
       go_ret
       exact ⟨by first | rfl | (simp [errW_none, errW_some] <;> rfl) | (simp [*, errW_none, errW_some] <;> rfl), by repeat (first | (with_reducible first | exact HB.out | apply below_alloc | apply pw_below_drewN | apply below_drew1 | refine below_set ?_ GE115.out) | exact HB.out)⟩
     rw [if_neg c27] at H
     have c27b0 : decide ((rd l2 x31_2) < (wrap64 (1000 - D0))) = false := decide_eq_false c27; clear c27
     by_cases c29 : (rd l2 x31_2) > (wrap64 (1000 + D0))
     · rw [if_pos c29] at H
       have c29b0 : decide ((wrap64 (1000 + D0)) < (rd l2 x31_2)) = true := decide_eq_true c29; clear c29
       obtain rfl := Option.some.inj H
       have p118 : 0 ≤ (x31_2 : Int) := of_decide_eq_true (by first | (with_reducible assumption) | assumption); have q118 : x31_2 < (l1.length : Int) := of_decide_eq_true (by first | (with_reducible assumption) | assumption)
       obtain ⟨ad118, e118, hx118_0⟩ := Kd.at_int HR1.out x31_2 p118 q118
       cases e118
       replace hx118_0 := (HB.out.cell (World.block_lt_of_cell? w _ hx118_0)).trans hx118_0
       replace p118 := eq_true p118
       replace q118 := eq_true q118
       have hcz30_0 : wr.cell? ⟨gb115, 0, none⟩ = some (.int .i64 D0) := (blk_cell B115.out 0).trans rfl; have hcz30_1 : wr.cell? ⟨gb115, 1, none⟩ = some (.int .i64 D1) := (blk_cell B115.out 1).trans rfl; have hcz30_2 : wr.cell? ⟨gb115, 2, none⟩ = some (.int .i64 D2) := (blk_cell B115.out 2).trans rfl; have hcz30_3 : wr.cell? ⟨gb115, 3, none⟩ = some (.int .i64 D3) := (blk_cell B115.out 3).trans rfl; have hfz30_0 := blk_frozen B115.out 0; have hfz30_1 := blk_frozen B115.out 1; have hfz30_2 := blk_frozen B115.out 2; have hfz30_3 := blk_frozen B115.out 3; have p119 : 0 ≤ (x31_2 : Int) := of_decide_eq_true (by first | (with_reducible assumption) | assumption); have q119 : x31_2 < (l1.length : Int) := of_decide_eq_true (by first | (with_reducible assumption) | assumption)
       obtain ⟨ad119, e119, hx119_0⟩ := Kd.at_int HR1.out x31_2 p119 q119
       obtain rfl : ad118 = ad119 := (by injection e119)
       replace hx119_0 := (HB.out.cell (World.block_lt_of_cell? w _ hx119_0)).trans hx119_0
       replace p119 := eq_true p119
       replace q119 := eq_true q119
       have p120 : 0 ≤ (x31_2 : Int) := of_decide_eq_true (by first | (with_reducible assumption) | assumption); have q120 : x31_2 < (l2.length : Int) := of_decide_eq_true (by first | (with_reducible assumption) | assumption)
       obtain ⟨ad120, e120, hx120_0⟩ := Kd.at_int HR2.out x31_2 p120 q120
       cases e120
       replace hx120_0 := (HB.out.cell (World.block_lt_of_cell? w _ hx120_0)).trans hx120_0
       replace p120 := eq_true p120
       replace q120 := eq_true q120
       have p121 : 0 ≤ (x31_2 : Int) := of_decide_eq_true (by first | (with_reducible assumption) | assumption); have q121 : x31_2 < (l2.length : Int) := of_decide_eq_true (by first | (with_reducible assumption) | assumption)
       obtain ⟨ad121, e121, hx121_0⟩ := Kd.at_int HR2.out x31_2 p121 q121
       obtain rfl : ad120 = ad121 := (by injection e121)
       replace hx121_0 := (HB.out.cell (World.block_lt_of_cell? w _ hx121_0)).trans hx121_0
       replace p121 := eq_true p121
       replace q121 := eq_true q121
       go_wp2
       repeat (go_quiet (fail); try go_wp2)
       go_ret
       exact ⟨by first | rfl | (simp [errW_none, errW_some] <;> rfl) | (simp [*, errW_none, errW_some] <;> rfl), by repeat (first | (with_reducible first | exact HB.out | apply below_alloc | apply pw_below_drewN | apply below_drew1 | refine below_set ?_ GE115.out) | exact HB.out)⟩
     rw [if_neg c29] at H
     have c29b0 : decide ((wrap64 (1000 + D0)) < (rd l2 x31_2)) = false := decide_eq_false c29; clear c29; have H' := As_ H; clear H; have p118 : 0 ≤ (x31_2 : Int) := of_decide_eq_true (by first | (with_reducible assumption) | assumption); have q118 : x31_2 < (l1.length : Int) := of_decide_eq_true (by first | (with_reducible assumption) | assumption)
     obtain ⟨ad118, e118, hx118_0⟩ := Kd.at_int HR1.out x31_2 p118 q118
     cases e118
     replace hx118_0 := (HB.out.cell (World.block_lt_of_cell? w _ hx118_0)).trans hx118_0
     replace p118 := eq_true p118
     replace q118 := eq_true q118
     have hcz31_0 : wr.cell? ⟨gb115, 0, none⟩ = some (.int .i64 D0) := (blk_cell B115.out 0).trans rfl; have hcz31_1 : wr.cell? ⟨gb115, 1, none⟩ = some (.int .i64 D1) := (blk_cell B115.out 1).trans rfl; have hcz31_2 : wr.cell? ⟨gb115, 2, none⟩ = some (.int .i64 D2) := (blk_cell B115.out 2).trans rfl; have hcz31_3 : wr.cell? ⟨gb115, 3, none⟩ = some (.int .i64 D3) := (blk_cell B115.out 3).trans rfl; have hfz31_0 := blk_frozen B115.out 0; have hfz31_1 := blk_frozen B115.out 1; have hfz31_2 := blk_frozen B115.out 2; have hfz31_3 := blk_frozen B115.out 3; have p119 : 0 ≤ (x31_2 : Int) := of_decide_eq_true (by first | (with_reducible assumption) | assumption); have q119 : x31_2 < (l1.length : Int) := of_decide_eq_true (by first | (with_reducible assumption) | assumption)
     obtain ⟨ad119, e119, hx119_0⟩ := Kd.at_int HR1.out x31_2 p119 q119
     obtain rfl : ad118 = ad119 := (by injection e119)
     replace hx119_0 := (HB.out.cell (World.block_lt_of_cell? w _ hx119_0)).trans hx119_0
     replace p119 := eq_true p119
     replace q119 := eq_true q119
     have p120 : 0 ≤ (x31_2 : Int) := of_decide_eq_true (by first | (with_reducible assumption) | assumption); have q120 : x31_2 < (l2.length : Int) := of_decide_eq_true (by first | (with_reducible assumption) | assumption)
     obtain ⟨ad120, e120, hx120_0⟩ := Kd.at_int HR2.out x31_2 p120 q120
     cases e120
     replace hx120_0 := (HB.out.cell (World.block_lt_of_cell? w _ hx120_0)).trans hx120_0
     replace p120 := eq_true p120
     replace q120 := eq_true q120
     have p121 : 0 ≤ (x31_2 : Int) := of_decide_eq_true (by first | (with_reducible assumption) | assumption); have q121 : x31_2 < (l2.length : Int) := of_decide_eq_true (by first | (with_reducible assumption) | assumption)
     obtain ⟨ad121, e121, hx121_0⟩ := Kd.at_int HR2.out x31_2 p121 q121
     obtain rfl : ad120 = ad121 := (by injection e121)
     replace hx121_0 := (HB.out.cell (World.block_lt_of_cell? w _ hx121_0)).trans hx121_0
     replace p121 := eq_true p121
     replace q121 := eq_true q121
     have p122 : 0 ≤ (x31_2 : Int) := of_decide_eq_true (by first | (with_reducible assumption) | assumption); have q122 : x31_2 < (l1.length : Int) := of_decide_eq_true (by first | (with_reducible assumption) | assumption)
     obtain ⟨ad122, e122, hx122_0⟩ := Kd.at_int HR1.out x31_2 p122 q122
     obtain rfl : ad118 = ad122 := (by injection e122)
     replace hx122_0 := (HB.out.cell (World.block_lt_of_cell? w _ hx122_0)).trans hx122_0
     replace p122 := eq_true p122
     replace q122 := eq_true q122
     have p123 : 0 ≤ (x31_2 : Int) := of_decide_eq_true (by first | (with_reducible assumption) | assumption); have q123 : x31_2 < (l2.length : Int) := of_decide_eq_true (by first | (with_reducible assumption) | assumption)
     obtain ⟨ad123, e123, hx123_0⟩ := Kd.at_int HR2.out x31_2 p123 q123
     obtain rfl : ad120 = ad123 := (by injection e123)
     replace hx123_0 := (HB.out.cell (World.block_lt_of_cell? w _ hx123_0)).trans hx123_0
     replace p123 := eq_true p123
     replace q123 := eq_true q123
     go_wp2
     repeat (go_quiet (fail); try go_wp2)
     go_roundg k2
     case measure => have := HJ5.out; have := HK2.out; omega
     case rel => exact ⟨(wrap64 (x7_2 + (rd l1 x31_2))), (wrap64 (x8_2 + (rd l2 x31_2))), (wrap64 (x31_2 + 1)), (by first | rfl | (simp; done) | (simp [*]; done)), (by first | rfl | (simp; done) | (simp [*]; done)), (by first | rfl | (simp; done) | (simp [*]; done)), H', ⟨by have := HJ5.out; have := HK2.out; omega⟩, ⟨by (with_reducible repeat (first | refine bN_ ?_ _ | refine bD_ ?_ | refine bA_ ?_ _)); exact B115.out⟩, ⟨by repeat (first | (with_reducible first | exact HB.out | apply below_alloc | apply pw_below_drewN | apply below_drew1 | refine below_set ?_ GE115.out) | exact HB.out)⟩⟩

end Go.Proofs.Ytlklbcaoooeioaa.QBoundClocks
