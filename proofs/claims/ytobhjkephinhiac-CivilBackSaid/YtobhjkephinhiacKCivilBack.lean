/- From dates to numbers and back, to texts and back, one comes to what was; the day behind a date has the next number. No condition. -/
import Derived.Test.YtobhjkephinhiacCivilMore
import Derived.Test.YtobhjkephinhiacRefParse
import Derived.Test.YtobhjkephinhiacCivilLex
namespace Go.Proofs.Ytobhjkephinhiac.CivilBackW
open Go.RowKit Go.Proofs.Ytobhjkephinhiac.Bk Go.Proofs.Ytobhjkephinhiac.Rw Go.Proofs.Ytobhjkephinhiac.Ow Go.Proofs.Ytobhjkephinhiac.Kp Go.Proofs.Ytobhjkephinhiac.Str Go.Proofs.Ytobhjkephinhiac.Civil

theorem bl_str (l : List Int) (h : ∀ x ∈ l, 0 ≤ x ∧ x ≤ 255) : bl (str l) = l := by
  unfold bl str
  rw [str_data]
  simp only [ByteArray.data_empty, Array.toList_append, List.map_append, List.map_map]
  rw [List.map_nil, List.nil_append]
  conv => rhs; rw [← List.map_id l]
  apply List.map_congr_left
  intro x hx
  have := h x hx
  simp only [Function.comp, UInt8.toNat_ofNat', id]
  omega
theorem dval_digs : ∀ (s : Nat) (n : Int), 0 ≤ n → n < 10 ^ s → dval (digs n s) = n
  | 0, n, h0, h1 => by simp at h1; simp [digs, dval]; omega
  | s + 1, n, h0, h1 => by
    rw [Int.pow_succ] at h1
    unfold digs
    rw [dval_snoc, dval_digs s (n / 10) (by omega) (by omega)]
    omega
theorem pk_tx {y m d : Int} (g : gd y m d = true) : pk (str (tx y m d)) ∧ n0 (str (tx y m d)) 10 = y ∧ n1 (str (tx y m d)) 10 = m ∧ n2 (str (tx y m d)) 10 = d := by
  obtain ⟨h0, h1, h2, h3, h4, h5⟩ := of_decide_eq_true g
  have hmd := md_bd y m
  have hb := bl_str _ (tx_bytes g)
  have e0 : n0 (str (tx y m d)) 10 = y := by
    unfold n0
    rw [hb]
    exact dval_digs 4 y (by omega) (by show y < 10000; omega)
  have e1 : n1 (str (tx y m d)) 10 = m := by
    unfold n1
    rw [hb]
    exact dval_digs 2 m (by omega) (by show m < 100; omega)
  have e2 : n2 (str (tx y m d)) 10 = d := by
    unfold n2
    rw [hb]
    exact dval_digs 2 d (by omega) (by show d < 100; omega)
  refine ⟨⟨by rw [str_size]; rfl, fun j hj => ?_, by rw [e0, e1, e2]; exact g⟩, e0, e1, e2⟩
  rw [hb]
  rcases (by omega : j = 0 ∨ j = 1 ∨ j = 2 ∨ j = 3 ∨ j = 4 ∨ j = 5 ∨ j = 6 ∨ j = 7 ∨ j = 8 ∨ j = 9) with rfl | rfl | rfl | rfl | rfl | rfl | rfl | rfl | rfl | rfl
  · exact ⟨fun h => by omega, fun _ => ⟨48 + y / 10 / 10 / 10 % 10, rfl, by unfold isd; omega⟩⟩
  · exact ⟨fun h => by omega, fun _ => ⟨48 + y / 10 / 10 % 10, rfl, by unfold isd; omega⟩⟩
  · exact ⟨fun h => by omega, fun _ => ⟨48 + y / 10 % 10, rfl, by unfold isd; omega⟩⟩
  · exact ⟨fun h => by omega, fun _ => ⟨48 + y % 10, rfl, by unfold isd; omega⟩⟩
  · exact ⟨fun _ => rfl, fun h => by omega⟩
  · exact ⟨fun h => by omega, fun _ => ⟨48 + m / 10 % 10, rfl, by unfold isd; omega⟩⟩
  · exact ⟨fun h => by omega, fun _ => ⟨48 + m % 10, rfl, by unfold isd; omega⟩⟩
  · exact ⟨fun _ => rfl, fun h => by omega⟩
  · exact ⟨fun h => by omega, fun _ => ⟨48 + d / 10 % 10, rfl, by unfold isd; omega⟩⟩
  · exact ⟨fun h => by omega, fun _ => ⟨48 + d % 10, rfl, by unfold isd; omega⟩⟩
theorem nm_range {y m d : Int} (g : gd y m d = true) : -719162 ≤ nm y m d ∧ nm y m d ≤ 2932896 := by
  obtain ⟨h0, h1, h2, h3, h4, h5⟩ := of_decide_eq_true g
  have a1 : nm 1 1 1 = -719162 := by decide
  have a2 : nm 9999 12 31 = 2932896 := by decide
  constructor
  · by_cases h : y = 1 ∧ m = 1 ∧ d = 1
    · obtain ⟨rfl, rfl, rfl⟩ := h; omega
    · have := nm_lt (show gd 1 1 1 = true by decide) g (by omega)
      omega
  · have hmd := md_bd y m
    by_cases h : y = 9999 ∧ m = 12 ∧ d = 31
    · obtain ⟨rfl, rfl, rfl⟩ := h; omega
    · have := nm_lt g (show gd 9999 12 31 = true by decide) (by omega)
      omega
/-- The day behind a date. -/
def nx (y m d : Int) : Int × Int × Int := if d + 1 ≤ md y m then (y, m, d + 1) else if m < 12 then (y, m + 1, 1) else (y + 1, 1, 1)
theorem nx_num {y m d : Int} (g : gd y m d = true) : ((nx y m d).1 ≤ 9999 → gd (nx y m d).1 (nx y m d).2.1 (nx y m d).2.2 = true ∧ nm (nx y m d).1 (nx y m d).2.1 (nx y m d).2.2 = nm y m d + 1) ∧ (9999 < (nx y m d).1 → 2932896 < nm y m d + 1) := by
  obtain ⟨h0, h1, h2, h3, h4, h5⟩ := of_decide_eq_true g
  obtain ⟨a, rfl⟩ := Int.eq_ofNat_of_zero_le (show 0 ≤ m by omega)
  unfold nx
  by_cases c1 : d + 1 ≤ md y a
  · rw [if_pos c1]
    refine ⟨fun _ => ⟨decide_eq_true (by simp; omega), ?_⟩, fun h => by simp at h; omega⟩
    unfold nm
    simp only
    omega
  · rw [if_neg c1]
    by_cases c2 : (a : Int) < 12
    · rw [if_pos c2]
      have hmd := md_bd y (a + 1)
      refine ⟨fun _ => ⟨decide_eq_true (by simp; omega), ?_⟩, fun h => by simp at h; omega⟩
      have hs := bf_succ y a (by omega)
      unfold nm
      simp only
      rw [show ((a : Int) + 1).toNat = a + 1 by omega, Int.toNat_natCast, hs]
      omega
    · rw [if_neg c2]
      have ha : (a : Int) = 12 := by omega
      rw [ha] at c1 h5 ⊢
      have hs : bf y 13 = bf y 12 + md y 12 := bf_succ y 12 (by omega)
      rw [bf13] at hs
      have hy := yr_succ y h0
      have hmd := md_bd (y + 1) 1
      have e1 : nm (y + 1) 1 1 = nm y 12 d + 1 := by
        unfold nm
        show -719162 + yr (y + 1) + 1 - 1 + bf (y + 1) 1 = -719162 + yr y + d - 1 + bf y 12 + 1
        rw [show bf (y + 1) 1 = 0 from rfl, hy]
        omega
      refine ⟨fun h => ⟨decide_eq_true (by simp at h ⊢; omega), e1⟩, fun h => ?_⟩
      simp only at h
      have h9 : y = 9999 := by omega
      subst h9
      have a2 : nm 9999 12 31 = 2932896 := by decide
      have hd : d = 31 := by
        have : md 9999 12 = 31 := by decide
        omega
      subst hd
      omega
theorem ret19 (Q : Ending → World → Prop) (a : Act) (W : World) (b : Nat) (x y z : Int) (h2 : a.tmps.getD 2 undef = .pointer (some ⟨b, 0, none⟩)) (hd : a.defers = [])
    (hb : Blk W b 27 #[.int .i64 x, .int .i64 y, .int .i64 z]) (hq : Q (.returned (date x y z)) W) : bodyPost Try.prog Try.f19 Q .ret a W := by
  have q0 : W.cell? ⟨b, 0, none⟩ = some (.int .i64 x) := hb.cell 0
  have q1 : W.cell? ⟨b, 1, none⟩ = some (.int .i64 y) := hb.cell 1
  have q2 : W.cell? ⟨b, 2, none⟩ = some (.int .i64 z) := hb.cell 2
  obtain ⟨tmps, defers⟩ := a
  simp only at h2 hd
  subst hd
  rw [Array.getD_eq_getD_getElem?] at h2
  refine bodyPost_ret (v := date x y z) ?_ rfl hq
  simp [results, Try.results19, go_sem, h2, q0, q1, q2, date]
theorem blk2 (w : World) (o : Obj) (n : Nat) : Blk (((w.alloc o).alloc (.cells zero3 27)).drewN n) (w.heap.size + 1) 27 zero3 := by
  have h := Blk.new (w.alloc o) 27 zero3
  rw [World.size_alloc] at h
  exact h
theorem bel2 (w : World) (o o2 : Obj) (n : Nat) : Below w.heap.size w (((w.alloc o).alloc o2).drewN n) := below_drewN_ (((Below.refl _ w).alloc (Nat.le_refl _) o).alloc (by simp) o2) n
set_option maxHeartbeats 1000000 in
theorem next_ok (y m d : Int) (w : World) (g : gd y m d = true) :
    Calls Try.prog 19 #[date y m d] w fun e w' => e = .returned (date (nx y m d).1 (nx y m d).2.1 (nx y m d).2.2) ∧ Below w.heap.size w w' := by
  obtain ⟨h0, h1, h2, h3, h4, h5⟩ := of_decide_eq_true g
  have hmd := md_bd y m
  have HM := Lib.hid (fun w => sym (days_ok y m w h0 (by omega) h2 h3))
  unfold nx
  clear g
  by_cases c1 : d + 1 ≤ md y m
  · rw [if_pos c1]
    unfold date
    generalize md y m = M at HM c1 h5 hmd
    go_enter Try.func19, Try.ntmps19
    go_wp2
    go_quiet ((go_at_call 22; exact Calls.quiet_of_same (HM.out _)))
    go_wp2
    refine ret19 _ _ _ (w.heap.size + 1) y m (d + 1) rfl rfl ((((blk2 w _ nq).set_ 0 _).set_ 1 _).set_ 2 _) ⟨rfl, ?_⟩
    exact (((bel2 w _ _ nq).setCell (p := ⟨w.heap.size + 1, 0, none⟩) (by simp) _).setCell (p := ⟨w.heap.size + 1, 1, none⟩) (by simp) _).setCell (p := ⟨w.heap.size + 1, 2, none⟩) (by simp) _
  · rw [if_neg c1]
    by_cases c2 : m < 12
    · rw [if_pos c2]
      unfold date
      generalize md y m = M at HM c1 h5 hmd
      go_enter Try.func19, Try.ntmps19
      go_wp2
      go_quiet ((go_at_call 22; exact Calls.quiet_of_same (HM.out _)))
      go_wp2
      refine ret19 _ _ _ (w.heap.size + 1) y (m + 1) 1 rfl rfl ((((((blk2 w _ nq).far (p := ⟨w.heap.size, 2, none⟩) (by simp) _).far (p := ⟨w.heap.size, 1, none⟩) (by simp) _).set_ 0 _).set_ 1 _).set_ 2 _) ⟨rfl, ?_⟩
      exact (((((bel2 w _ _ nq).setCell (p := ⟨w.heap.size, 2, none⟩) (by simp) _).setCell (p := ⟨w.heap.size, 1, none⟩) (by simp) _).setCell (p := ⟨w.heap.size + 1, 0, none⟩) (by simp) _).setCell (p := ⟨w.heap.size + 1, 1, none⟩) (by simp) _).setCell (p := ⟨w.heap.size + 1, 2, none⟩) (by simp) _
    · rw [if_neg c2]
      obtain rfl : m = 12 := by omega
      unfold date
      generalize md y 12 = M at HM c1 h5 hmd
      go_enter Try.func19, Try.ntmps19
      go_wp2
      go_quiet ((go_at_call 22; exact Calls.quiet_of_same (HM.out _)))
      obtain ⟨w1, hw1, hz, hx, hbe⟩ : ∃ w1, (((w.alloc (.cells #[.int .i64 y, .int .i64 12, .int .i64 (d + 1)] 27)).alloc (.cells #[.int .i64 0, .int .i64 0, .int .i64 0] 27)).drewN nq) = w1 ∧ Blk w1 (w.heap.size + 1) 27 zero3 ∧ Blk w1 w.heap.size 27 #[.int .i64 y, .int .i64 12, .int .i64 (d + 1)] ∧ Below w.heap.size w w1 := ⟨_, rfl, blk2 w _ nq, ((Blk.new w 27 _).alloc _).drewN nq, bel2 w _ _ nq⟩
      rw [hw1]
      have b0 : w1.cell? ⟨w.heap.size, 0, none⟩ = some (.int .i64 y) := hx.cell 0
      have b1 : w1.cell? ⟨w.heap.size, 1, none⟩ = some (.int .i64 12) := hx.cell 1
      have b2 : w1.cell? ⟨w.heap.size, 2, none⟩ = some (.int .i64 (d + 1)) := hx.cell 2
      have k0 := hx.frozen 0
      have k1 := hx.frozen 1
      have k2 := hx.frozen 2
      have e0 : w1.cell? ⟨w.heap.size + 1, 0, none⟩ = some (.int .i64 0) := hz.cell 0
      have e1 : w1.cell? ⟨w.heap.size + 1, 1, none⟩ = some (.int .i64 0) := hz.cell 1
      have e2 : w1.cell? ⟨w.heap.size + 1, 2, none⟩ = some (.int .i64 0) := hz.cell 2
      have m0 := hz.frozen 0
      have m1 := hz.frozen 1
      have m2 := hz.frozen 2
      have hxx := (((hx.set_ 2 (.int .i64 1)).set_ 1 (.int .i64 13)).set_ 1 (.int .i64 1)).set_ 0 (.int .i64 (y + 1))
      have q0 : ((((w1.setCell ⟨w.heap.size, 2, none⟩ (.int .i64 1)).setCell ⟨w.heap.size, 1, none⟩ (.int .i64 13)).setCell ⟨w.heap.size, 1, none⟩ (.int .i64 1)).setCell ⟨w.heap.size, 0, none⟩ (.int .i64 (y + 1))).cell? ⟨w.heap.size, 0, none⟩ = some (.int .i64 (y + 1)) := hxx.cell 0
      have q1 : ((((w1.setCell ⟨w.heap.size, 2, none⟩ (.int .i64 1)).setCell ⟨w.heap.size, 1, none⟩ (.int .i64 13)).setCell ⟨w.heap.size, 1, none⟩ (.int .i64 1)).setCell ⟨w.heap.size, 0, none⟩ (.int .i64 (y + 1))).cell? ⟨w.heap.size, 1, none⟩ = some (.int .i64 1) := hxx.cell 1
      have q2 : ((((w1.setCell ⟨w.heap.size, 2, none⟩ (.int .i64 1)).setCell ⟨w.heap.size, 1, none⟩ (.int .i64 13)).setCell ⟨w.heap.size, 1, none⟩ (.int .i64 1)).setCell ⟨w.heap.size, 0, none⟩ (.int .i64 (y + 1))).cell? ⟨w.heap.size, 2, none⟩ = some (.int .i64 1) := hxx.cell 2
      clear hxx
      have HZ := Lib.hid hz
      have HBE := Lib.hid hbe
      clear hw1 hz hx hbe
      go_wp2
      refine ret19 _ _ _ (w.heap.size + 1) (y + 1) 1 1 rfl rfl ((((((((HZ.out).far (p := ⟨w.heap.size, 2, none⟩) (by simp) _).far (p := ⟨w.heap.size, 1, none⟩) (by simp) _).far (p := ⟨w.heap.size, 1, none⟩) (by simp) _).far (p := ⟨w.heap.size, 0, none⟩) (by simp) _).set_ 0 _).set_ 1 _).set_ 2 _) ⟨rfl, ?_⟩
      exact (((((((HBE.out).setCell (p := ⟨w.heap.size, 2, none⟩) (by simp) _).setCell (p := ⟨w.heap.size, 1, none⟩) (by simp) _).setCell (p := ⟨w.heap.size, 1, none⟩) (by simp) _).setCell (p := ⟨w.heap.size, 0, none⟩) (by simp) _).setCell (p := ⟨w.heap.size + 1, 0, none⟩) (by simp) _).setCell (p := ⟨w.heap.size + 1, 1, none⟩) (by simp) _).setCell (p := ⟨w.heap.size + 1, 2, none⟩) (by simp) _

theorem back1 {number : Int} {e : Ending} {y m d : Int} (g : gd y m d = true) (hn : nm y m d = number) (h : Ofe number e) : e = .returned (.tuple #[date y m d, .bool true]) := by
  have hr := nm_range g
  rcases h with ⟨h, _⟩ | ⟨_, y', m', d', rfl, g', hn'⟩
  · exact absurd (by omega) h
  · obtain ⟨rfl, rfl, rfl⟩ := nm_inj g g' (by omega)
    rfl

set_option maxRecDepth 100000 in
set_option maxHeartbeats 4000000 in
set_option linter.unusedVariables false in
theorem walk (a0_0 : Int) (a0_1 : Int) (a0_2 : Int) (W : World) (w0_0 : (Lit.int .i64 a0_0).wf = true) (w0_1 : (Lit.int .i64 a0_1).wf = true) (w0_2 : (Lit.int .i64 a0_2).wf = true) :
    Calls Try.prog 7 #[.agg #[.int .i64 a0_0, .int .i64 a0_1, .int .i64 a0_2]] W fun e w' => e = .returned (.bool true) ∧ Below W.heap.size W w' := by
  clear w0_0 w0_1 w0_2
  have RG := Lib.hid (fun w => refgood_ok a0_0 a0_1 a0_2 w)
  have HD := Lib.hid (show Blk (W.alloc (.cells #[.int .i64 a0_0, .int .i64 a0_1, .int .i64 a0_2] 24)) W.heap.size 24 #[.int .i64 a0_0, .int .i64 a0_1, .int .i64 a0_2] ∧ Below W.heap.size W (W.alloc (.cells #[.int .i64 a0_0, .int .i64 a0_1, .int .i64 a0_2] 24)) from ⟨Blk.new _ _ _, (Below.refl _ W).alloc (Nat.le_refl _) _⟩)
  cases ga : gd a0_0 a0_1 a0_2
  · rw [ga] at RG
    unfold date at RG
    clear ga
    go_enter Try.func7, Try.ntmps7
    go_wp2_with fail
    refine (alive_ok _).mono ?_
    rintro e w1 ⟨rfl, hb⟩
    have hbk := HD.out.1.keeps hb
    have c0 : w1.cell? ⟨W.heap.size, 0, none⟩ = some (.int .i64 a0_0) := hbk.cell 0
    have c1 : w1.cell? ⟨W.heap.size, 1, none⟩ = some (.int .i64 a0_1) := hbk.cell 1
    have c2 : w1.cell? ⟨W.heap.size, 2, none⟩ = some (.int .i64 a0_2) := hbk.cell 2
    have HB1 := Lib.hid (HD.out.2.trans (hb.mono (by simp)))
    clear hb HD hbk
    go_wp2_with fail
    refine (RG.out _).mono ?_
    rintro e w2 ⟨rfl, hb⟩
    have HB2 := Lib.hid (HB1.out.trans (hb.mono HB1.out.size))
    clear hb
    go_wp2
    go_ret
    exact ⟨rfl, HB2.out⟩
  have NM := Lib.hid (fun w => num_ok a0_0 a0_1 a0_2 w ga)
  have OF := Lib.hid (fun w => (of_ok (nm a0_0 a0_1 a0_2) w).mono (R' := fun e w' => e = .returned (.tuple #[date a0_0 a0_1 a0_2, .bool true]) ∧ Below w.heap.size w w') (fun e w' h => ⟨back1 ga rfl h.1, h.2⟩))
  have TX := Lib.hid (fun w => text_ok a0_0 a0_1 a0_2 w ga)
  obtain ⟨hp0, hp1, hp2, hp3⟩ := pk_tx ga
  have PS := Lib.hid (fun w => (parse_ok (str (tx a0_0 a0_1 a0_2)) w).mono (R' := fun e w' => e = .returned (.tuple #[date a0_0 a0_1 a0_2, .bool true]) ∧ Below w.heap.size w w') (fun e w' h => ⟨by
    rcases h.1 with ⟨_, h1⟩ | ⟨h1, _⟩
    · rw [hp1, hp2, hp3] at h1
      exact h1
    · exact absurd hp0 h1, h.2⟩))
  have NX := Lib.hid (fun w => next_ok a0_0 a0_1 a0_2 w ga)
  have hx := nx_num ga
  have hr := nm_range ga
  have ON := Lib.hid (fun w => of_ok (nm a0_0 a0_1 a0_2 + 1) w)
  rw [ga] at RG
  unfold date at RG NM OF TX PS NX
  clear hp0 hp1 hp2 hp3 ga
  generalize (nx a0_0 a0_1 a0_2).1 = y at NX hx
  generalize (nx a0_0 a0_1 a0_2).2.1 = m at NX hx
  generalize (nx a0_0 a0_1 a0_2).2.2 = d at NX hx
  generalize nm a0_0 a0_1 a0_2 = n at NM OF ON hx hr
  generalize str (tx a0_0 a0_1 a0_2) = sx at TX PS
  have HX := Lib.hid hx
  clear hx
  go_enter Try.func7, Try.ntmps7
  go_wp2_with fail
  refine (alive_ok _).mono ?_
  rintro e w1 ⟨rfl, hb⟩
  have B1 := Lib.hid (HD.out.1.keeps hb)
  have HB1 := Lib.hid (HD.out.2.trans (hb.mono (by simp)))
  have c0 : w1.cell? ⟨W.heap.size, 0, none⟩ = some (.int .i64 a0_0) := B1.out.cell 0
  have c1 : w1.cell? ⟨W.heap.size, 1, none⟩ = some (.int .i64 a0_1) := B1.out.cell 1
  have c2 : w1.cell? ⟨W.heap.size, 2, none⟩ = some (.int .i64 a0_2) := B1.out.cell 2
  clear hb HD
  go_wp2_with fail
  refine (RG.out _).mono ?_
  rintro e w2 ⟨rfl, hb⟩
  have B2 := Lib.hid (B1.out.keeps hb)
  have HB2 := Lib.hid (HB1.out.trans (hb.mono HB1.out.size))
  clear hb B1 HB1 c0 c1 c2
  have c0 : w2.cell? ⟨W.heap.size, 0, none⟩ = some (.int .i64 a0_0) := B2.out.cell 0
  have c1 : w2.cell? ⟨W.heap.size, 1, none⟩ = some (.int .i64 a0_1) := B2.out.cell 1
  have c2 : w2.cell? ⟨W.heap.size, 2, none⟩ = some (.int .i64 a0_2) := B2.out.cell 2
  go_wp2_with fail
  refine (NM.out _).mono ?_
  rintro e w3 ⟨rfl, hb⟩
  have B3 := Lib.hid (B2.out.keeps hb)
  have HB3 := Lib.hid (HB2.out.trans (hb.mono HB2.out.size))
  clear hb B2 HB2 c0 c1 c2
  go_wp2_with fail
  refine (OF.out _).mono ?_
  rintro e w4 ⟨rfl, hb⟩
  have B4 := Lib.hid (B3.out.keeps hb)
  have HB4 := Lib.hid (HB3.out.trans (hb.mono HB3.out.size))
  clear hb B3 HB3
  have c0 : ∀ o, (w4.alloc o).cell? ⟨W.heap.size, 0, none⟩ = some (.int .i64 a0_0) := fun o => (B4.out.alloc o).cell 0
  have c1 : ∀ o, (w4.alloc o).cell? ⟨W.heap.size, 1, none⟩ = some (.int .i64 a0_1) := fun o => (B4.out.alloc o).cell 1
  have c2 : ∀ o, (w4.alloc o).cell? ⟨W.heap.size, 2, none⟩ = some (.int .i64 a0_2) := fun o => (B4.out.alloc o).cell 2
  go_wp2_with fail
  refine (TX.out _).mono ?_
  rintro e w5 ⟨rfl, hb⟩
  have B5 := Lib.hid ((B4.out.alloc (.cells #[.int .i64 a0_0, .int .i64 a0_1, .int .i64 a0_2] 24)).keeps hb)
  have P5 := Lib.hid ((Blk.new w4 24 #[.int .i64 a0_0, .int .i64 a0_1, .int .i64 a0_2]).keeps hb)
  have HB5 := Lib.hid (show Below W.heap.size W w5 from (HB4.out.alloc HB4.out.size _).trans (hb.mono (by have := HB4.out.size; simp; omega)))
  clear hb B4 HB4 c0 c1 c2
  generalize w4.heap.size = p5 at P5 ⊢
  go_wp2_with fail
  refine (PS.out _).mono ?_
  rintro e w6 ⟨rfl, hb⟩
  have B6 := Lib.hid (B5.out.keeps hb)
  have P6 := Lib.hid (P5.out.keeps hb)
  have HB6 := Lib.hid (HB5.out.trans (hb.mono HB5.out.size))
  clear hb B5 P5 HB5
  have c0 : ∀ o, (w6.alloc o).cell? ⟨W.heap.size, 0, none⟩ = some (.int .i64 a0_0) := fun o => (B6.out.alloc o).cell 0
  have c1 : ∀ o, (w6.alloc o).cell? ⟨W.heap.size, 1, none⟩ = some (.int .i64 a0_1) := fun o => (B6.out.alloc o).cell 1
  have c2 : ∀ o, (w6.alloc o).cell? ⟨W.heap.size, 2, none⟩ = some (.int .i64 a0_2) := fun o => (B6.out.alloc o).cell 2
  have d0 : ∀ o, (w6.alloc o).cell? ⟨p5, 0, none⟩ = some (.int .i64 a0_0) := fun o => (P6.out.alloc o).cell 0
  have d1 : ∀ o, (w6.alloc o).cell? ⟨p5, 1, none⟩ = some (.int .i64 a0_1) := fun o => (P6.out.alloc o).cell 1
  have d2 : ∀ o, (w6.alloc o).cell? ⟨p5, 2, none⟩ = some (.int .i64 a0_2) := fun o => (P6.out.alloc o).cell 2
  go_wp2_with fail
  refine (NX.out _).mono ?_
  rintro e w7 ⟨rfl, hb⟩
  have HB7 := Lib.hid (show Below W.heap.size W w7 from (HB6.out.alloc HB6.out.size _).trans (hb.mono (by have := HB6.out.size; simp; omega)))
  clear hb B6 P6 HB6 c0 c1 c2 d0 d1 d2
  go_wp2_with fail
  refine (ON.out _).mono ?_
  rintro e w8 ⟨hof, hb⟩
  have Q8 := Lib.hid ((Blk.new w7 27 #[.int .i64 y, .int .i64 m, .int .i64 d]).keeps hb)
  have HB8 := Lib.hid (show Below W.heap.size W w8 from (HB7.out.alloc HB7.out.size _).trans (hb.mono (by have := HB7.out.size; simp; omega)))
  clear hb HB7
  have d0 : ∀ o, (w8.alloc o).cell? ⟨w7.heap.size, 0, none⟩ = some (.int .i64 y) := fun o => (Q8.out.alloc o).cell 0
  have d1 : ∀ o, (w8.alloc o).cell? ⟨w7.heap.size, 1, none⟩ = some (.int .i64 m) := fun o => (Q8.out.alloc o).cell 1
  have d2 : ∀ o, (w8.alloc o).cell? ⟨w7.heap.size, 2, none⟩ = some (.int .i64 d) := fun o => (Q8.out.alloc o).cell 2
  by_cases hy : y ≤ 9999
  · have he := back1 (HX.out.1 hy).1 (HX.out.1 hy).2 hof
    unfold date at he
    subst he
    clear hof
    go_wp2
    go_ret
    exact ⟨rfl, HB8.out.alloc HB8.out.size _⟩
  · have hn := HX.out.2 (by omega)
    obtain ⟨_, he⟩ | ⟨h, _⟩ := hof
    rotate_left
    · exact absurd h (by omega)
    unfold date at he
    subst he
    go_wp2
    go_ret
    exact ⟨rfl, HB8.out.alloc HB8.out.size _⟩
end Go.Proofs.Ytobhjkephinhiac.CivilBackW
