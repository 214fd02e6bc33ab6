/- Set. -/
import Derived.Test.YtofflnklbdhaiaaDoorLk
import Derived.Laws.BitsAllLaws
namespace Go.Proofs.YtofflnklbdhaiaaDoor.Lk
open Go.RowKit Go.Proofs.YtofflnklbdhaiaaDoor.Bk Go.Proofs.YtofflnklbdhaiaaDoor.Rw Go.Proofs.YtofflnklbdhaiaaDoor.Ow Go.Proofs.YtofflnklbdhaiaaDoor.Kp Go.Proofs.YtofflnklbdhaiaaDoor.Ck Go.Proofs.YtofflnklbdhaiaaDoor.Ck2

/-- A bit taken away, or laid. -/
def off (x k : Nat) : Nat := x &&& (18446744073709551615 - 2 ^ k)
def on (x k : Nat) : Nat := x ||| 2 ^ k
theorem two_lt {k : Nat} (hk : k < 64) : 2 ^ k < 18446744073709551616 := Nat.pow_lt_pow_right (by decide) hk
theorem off_lt {x k : Nat} (hx : x < 2 ^ 64) : off x k < 2 ^ 64 := Nat.lt_of_le_of_lt Nat.and_le_left hx
theorem on_lt {x k : Nat} (hx : x < 2 ^ 64) (hk : k < 64) : on x k < 2 ^ 64 := Nat.or_lt_two_pow hx (two_lt hk)
theorem off_bit {x k j : Nat} (hx : x < 2 ^ 64) (hk : k < 64) : (off x k).testBit j = (x.testBit j && !decide (k = j)) := by
  unfold off
  rw [Nat.testBit_and, show (18446744073709551615 : Nat) - 2 ^ k = 2 ^ 64 - (2 ^ k + 1) by omega, Nat.testBit_two_pow_sub_succ (two_lt hk), Nat.testBit_two_pow]
  by_cases hj : j < 64
  · simp [hj]
  · rw [Nat.testBit_lt_two_pow (Nat.lt_of_lt_of_le hx (Nat.pow_le_pow_right (by decide) (by omega)))]
    simp
theorem on_bit {x k j : Nat} : (on x k).testBit j = (x.testBit j || decide (k = j)) := by
  unfold on
  rw [Nat.testBit_or, Nat.testBit_two_pow]
theorem Ln.drew_ {w : World} {p g : Nat} {a : List Nat} (h : Ln w p g a) : Ln w.drew p g a := ⟨h.box.drew, h.row.drew, h.ne, h.small, h.lo, h.hi⟩
theorem Ln.put {w : World} {p g : Nat} {a : List Nat} (h : Ln w p g a) (i v : Nat) (hv : v < 2 ^ 64) : Ln (w.setCell ⟨g, i, none⟩ (.int .u64 (v : Nat))) p g (a.set i v) := by
  refine ⟨?_, ?_, h.ne, fun x hx => ?_, by rw [List.length_set]; exact h.lo, by rw [List.length_set]; exact h.hi⟩
  · rw [List.length_set]
    exact h.box.far (p := ⟨g, i, none⟩) h.ne _
  · refine set_at2 h.row ?_
    rw [us, us, List.map_set]
  · rcases List.mem_or_eq_of_mem_set hx with hx | rfl
    · exact h.small _ hx
    · exact hv
/-- The row, two turned to one another or away. -/
def link (a : List Nat) (i k : Nat) (o : Bool) : List Nat :=
  let b := a.set i (off (a.getD i 0) k)
  let c := b.set k (off (b.getD k 0) i)
  if o then
    let d := c.set i (on (c.getD i 0) k)
    d.set k (on (d.getD k 0) i)
  else c
set_option maxRecDepth 100000 in
theorem set_on (p g : Nat) (a : List Nat) (i k : Nat) (hi : i < a.length) (hk : k < a.length) (hik : i ≠ k) (w : World) (h : Ln w p g a) :
    Calls Tryd.prog 14 #[.pointer (some ⟨p, 0, none⟩), .int .i64 i, .int .i64 k, .bool true] w fun e w' => e = .returned (.int .i64 0) ∧ Ln w' p g (link a i k true) ∧ Kp (fun b => b = g) w w' := by
  have hm : (isn a i && isn a k && !((i : Int) == k)) = true := by simp; omega
  have CM := Lib.hid (hm ▸ may_any (some ⟨p, 0, none⟩) a i k w (.inr ⟨p, g, rfl, h⟩))
  have HL := Lib.hid h
  have c1 := h.box.cell 1
  have ci := h.at_ hi
  have gi := h.row.frozen i
  have n1 : (i : Int) < (a.length : Int) := by omega
  have n2 : (k : Int) < (a.length : Int) := by omega
  have n3 : ¬ ((k : Int) < 0) := by omega
  have n4 : ¬ ((i : Int) < 0) := by omega
  have hh := h.hi
  have k64 : k < 64 := by omega
  have i64 : i < 64 := by omega
  obtain ⟨Pk, hPk0⟩ : ∃ P, 2 ^ k = P := ⟨_, rfl⟩
  obtain ⟨Pi, hPi0⟩ : ∃ P, 2 ^ i = P := ⟨_, rfl⟩
  have hPk := Lib.hid hPk0
  have hPi := Lib.hid hPi0
  have wk : IntKind.u64.wrap ((2 : Int) ^ k) = (Pk : Int) := by
    have hlt := two_lt k64
    have e : ((2 : Int) ^ k) = ((2 ^ k : Nat) : Int) := by simp
    rw [e, hPk0, IntKind.wrap_u64]
    rw [hPk0] at hlt
    omega
  have wi : IntKind.u64.wrap ((2 : Int) ^ i) = (Pi : Int) := by
    have hlt := two_lt i64
    have e : ((2 : Int) ^ i) = ((2 ^ i : Nat) : Int) := by simp
    rw [e, hPi0, IntKind.wrap_u64]
    rw [hPi0] at hlt
    omega
  have HL1 := Lib.hid h
  have HK1 := Lib.hid (Kp.refl (fun b => b = g) w)
  clear h hm hPk0 hPi0 c1 ci gi
  obtain ⟨x1, hx1⟩ : ∃ x, (a).getD i 0 = x := ⟨_, rfl⟩
  have xs1 : x1 < 2 ^ 64 := by
    rw [← hx1, List.getD_eq_getElem?_getD, List.getElem?_eq_getElem (by first | omega | (simp; omega))]
    exact HL1.out.small _ (List.getElem_mem _)
  have c1 := HL1.out.box.cell 1
  have ci := HL1.out.at_ (i := i) (by first | omega | (simp; omega))
  have gi := HL1.out.row.frozen i
  rw [hx1] at ci
  obtain ⟨y1, hy1⟩ : ∃ y, off x1 k = y := ⟨_, rfl⟩
  have ys1 : y1 < 2 ^ 64 := by rw [← hy1]; first | exact off_lt xs1 | exact on_lt xs1 (by omega)
  have eb : bits BinOp.andNot IntKind.u64 (x1 : Int) (Pk : Int) = (y1 : Int) := by
    rw [← hy1]
    first
      | (rw [u64_andNot_nat _ _ xs1 (by rw [← hPk.out]; exact two_lt (by omega)), ← hPk.out]; rfl)
      | (rw [bits_or_u64_nat _ _ xs1 (by rw [← hPk.out]; exact two_lt (by omega)), ← hPk.out]; rfl)
  have HX1 := Lib.hid hx1
  have HY1 := Lib.hid hy1
  have HYS1 := Lib.hid ys1
  clear hx1 hy1 xs1 ys1
  go_enter Tryd.func14, Tryd.ntmps14
  go_wp2_with (go_at_call 21; (with_reducible refine Calls.mono CM.out ?_); rintro e w1 ⟨rfl, rfl⟩)
  go_region
  have HL2 := Lib.hid (show Ln (w.setCell ⟨g, i, none⟩ (.int .u64 (y1 : Nat))).drew p g ((a).set i y1) from (HL1.out.put i y1 HYS1.out).drew_)
  have HK2 := Lib.hid (HK1.out.trans (show Kp (fun b => b = g) w (w.setCell ⟨g, i, none⟩ (.int .u64 (y1 : Nat))).drew from ((Kp.refl (fun b => b = g) w).set_ ⟨g, i, none⟩ (.inl rfl) _).drew))
  clear c1 ci gi eb HL1 HK1 HYS1
  generalize (w.setCell ⟨g, i, none⟩ (.int .u64 (y1 : Nat))).drew = w2 at HL2 HK2 ⊢
  obtain ⟨x2, hx2⟩ : ∃ x, (a.set i y1).getD k 0 = x := ⟨_, rfl⟩
  have xs2 : x2 < 2 ^ 64 := by
    rw [← hx2, List.getD_eq_getElem?_getD, List.getElem?_eq_getElem (by first | omega | (simp; omega))]
    exact HL2.out.small _ (List.getElem_mem _)
  have c1 := HL2.out.box.cell 1
  have ci := HL2.out.at_ (i := k) (by first | omega | (simp; omega))
  have gi := HL2.out.row.frozen k
  rw [hx2] at ci
  obtain ⟨y2, hy2⟩ : ∃ y, off x2 i = y := ⟨_, rfl⟩
  have ys2 : y2 < 2 ^ 64 := by rw [← hy2]; first | exact off_lt xs2 | exact on_lt xs2 (by omega)
  have eb : bits BinOp.andNot IntKind.u64 (x2 : Int) (Pi : Int) = (y2 : Int) := by
    rw [← hy2]
    first
      | (rw [u64_andNot_nat _ _ xs2 (by rw [← hPi.out]; exact two_lt (by omega)), ← hPi.out]; rfl)
      | (rw [bits_or_u64_nat _ _ xs2 (by rw [← hPi.out]; exact two_lt (by omega)), ← hPi.out]; rfl)
  have HX2 := Lib.hid hx2
  have HY2 := Lib.hid hy2
  have HYS2 := Lib.hid ys2
  clear hx2 hy2 xs2 ys2
  go_wp2_with fail
  go_region
  have HL3 := Lib.hid (show Ln (w2.setCell ⟨g, k, none⟩ (.int .u64 (y2 : Nat))).drew p g ((a.set i y1).set k y2) from (HL2.out.put k y2 HYS2.out).drew_)
  have HK3 := Lib.hid (HK2.out.trans (show Kp (fun b => b = g) w2 (w2.setCell ⟨g, k, none⟩ (.int .u64 (y2 : Nat))).drew from ((Kp.refl (fun b => b = g) w2).set_ ⟨g, k, none⟩ (.inl rfl) _).drew))
  clear c1 ci gi eb HL2 HK2 HYS2
  generalize (w2.setCell ⟨g, k, none⟩ (.int .u64 (y2 : Nat))).drew = w3 at HL3 HK3 ⊢
  obtain ⟨x3, hx3⟩ : ∃ x, ((a.set i y1).set k y2).getD i 0 = x := ⟨_, rfl⟩
  have xs3 : x3 < 2 ^ 64 := by
    rw [← hx3, List.getD_eq_getElem?_getD, List.getElem?_eq_getElem (by first | omega | (simp; omega))]
    exact HL3.out.small _ (List.getElem_mem _)
  have c1 := HL3.out.box.cell 1
  have ci := HL3.out.at_ (i := i) (by first | omega | (simp; omega))
  have gi := HL3.out.row.frozen i
  rw [hx3] at ci
  obtain ⟨y3, hy3⟩ : ∃ y, on x3 k = y := ⟨_, rfl⟩
  have ys3 : y3 < 2 ^ 64 := by rw [← hy3]; first | exact off_lt xs3 | exact on_lt xs3 (by omega)
  have eb : bits BinOp.or IntKind.u64 (x3 : Int) (Pk : Int) = (y3 : Int) := by
    rw [← hy3]
    first
      | (rw [u64_andNot_nat _ _ xs3 (by rw [← hPk.out]; exact two_lt (by omega)), ← hPk.out]; rfl)
      | (rw [bits_or_u64_nat _ _ xs3 (by rw [← hPk.out]; exact two_lt (by omega)), ← hPk.out]; rfl)
  have HX3 := Lib.hid hx3
  have HY3 := Lib.hid hy3
  have HYS3 := Lib.hid ys3
  clear hx3 hy3 xs3 ys3
  go_wp2_with fail
  go_region
  have HL4 := Lib.hid (show Ln (w3.setCell ⟨g, i, none⟩ (.int .u64 (y3 : Nat))).drew p g (((a.set i y1).set k y2).set i y3) from (HL3.out.put i y3 HYS3.out).drew_)
  have HK4 := Lib.hid (HK3.out.trans (show Kp (fun b => b = g) w3 (w3.setCell ⟨g, i, none⟩ (.int .u64 (y3 : Nat))).drew from ((Kp.refl (fun b => b = g) w3).set_ ⟨g, i, none⟩ (.inl rfl) _).drew))
  clear c1 ci gi eb HL3 HK3 HYS3
  generalize (w3.setCell ⟨g, i, none⟩ (.int .u64 (y3 : Nat))).drew = w4 at HL4 HK4 ⊢
  obtain ⟨x4, hx4⟩ : ∃ x, (((a.set i y1).set k y2).set i y3).getD k 0 = x := ⟨_, rfl⟩
  have xs4 : x4 < 2 ^ 64 := by
    rw [← hx4, List.getD_eq_getElem?_getD, List.getElem?_eq_getElem (by first | omega | (simp; omega))]
    exact HL4.out.small _ (List.getElem_mem _)
  have c1 := HL4.out.box.cell 1
  have ci := HL4.out.at_ (i := k) (by first | omega | (simp; omega))
  have gi := HL4.out.row.frozen k
  rw [hx4] at ci
  obtain ⟨y4, hy4⟩ : ∃ y, on x4 i = y := ⟨_, rfl⟩
  have ys4 : y4 < 2 ^ 64 := by rw [← hy4]; first | exact off_lt xs4 | exact on_lt xs4 (by omega)
  have eb : bits BinOp.or IntKind.u64 (x4 : Int) (Pi : Int) = (y4 : Int) := by
    rw [← hy4]
    first
      | (rw [u64_andNot_nat _ _ xs4 (by rw [← hPi.out]; exact two_lt (by omega)), ← hPi.out]; rfl)
      | (rw [bits_or_u64_nat _ _ xs4 (by rw [← hPi.out]; exact two_lt (by omega)), ← hPi.out]; rfl)
  have HX4 := Lib.hid hx4
  have HY4 := Lib.hid hy4
  have HYS4 := Lib.hid ys4
  clear hx4 hy4 xs4 ys4
  go_wp2_with fail
  go_region
  have HL5 := Lib.hid (show Ln (w4.setCell ⟨g, k, none⟩ (.int .u64 (y4 : Nat))).drew p g ((((a.set i y1).set k y2).set i y3).set k y4) from (HL4.out.put k y4 HYS4.out).drew_)
  have HK5 := Lib.hid (HK4.out.trans (show Kp (fun b => b = g) w4 (w4.setCell ⟨g, k, none⟩ (.int .u64 (y4 : Nat))).drew from ((Kp.refl (fun b => b = g) w4).set_ ⟨g, k, none⟩ (.inl rfl) _).drew))
  clear c1 ci gi eb HL4 HK4 HYS4
  generalize (w4.setCell ⟨g, k, none⟩ (.int .u64 (y4 : Nat))).drew = w5 at HL5 HK5 ⊢
  go_wp2
  go_ret
  refine ⟨rfl, ?_, HK5.out⟩
  have h5 := HL5.out
  rw [← HY4.out, ← HX4.out, ← HY3.out, ← HX3.out, ← HY2.out, ← HX2.out, ← HY1.out, ← HX1.out] at h5
  exact h5
set_option maxRecDepth 100000 in
theorem set_off (p g : Nat) (a : List Nat) (i k : Nat) (hi : i < a.length) (hk : k < a.length) (hik : i ≠ k) (w : World) (h : Ln w p g a) :
    Calls Tryd.prog 14 #[.pointer (some ⟨p, 0, none⟩), .int .i64 i, .int .i64 k, .bool false] w fun e w' => e = .returned (.int .i64 0) ∧ Ln w' p g (link a i k false) ∧ Kp (fun b => b = g) w w' := by
  have hm : (isn a i && isn a k && !((i : Int) == k)) = true := by simp; omega
  have CM := Lib.hid (hm ▸ may_any (some ⟨p, 0, none⟩) a i k w (.inr ⟨p, g, rfl, h⟩))
  have HL := Lib.hid h
  have c1 := h.box.cell 1
  have ci := h.at_ hi
  have gi := h.row.frozen i
  have n1 : (i : Int) < (a.length : Int) := by omega
  have n2 : (k : Int) < (a.length : Int) := by omega
  have n3 : ¬ ((k : Int) < 0) := by omega
  have n4 : ¬ ((i : Int) < 0) := by omega
  have hh := h.hi
  have k64 : k < 64 := by omega
  have i64 : i < 64 := by omega
  obtain ⟨Pk, hPk0⟩ : ∃ P, 2 ^ k = P := ⟨_, rfl⟩
  obtain ⟨Pi, hPi0⟩ : ∃ P, 2 ^ i = P := ⟨_, rfl⟩
  have hPk := Lib.hid hPk0
  have hPi := Lib.hid hPi0
  have wk : IntKind.u64.wrap ((2 : Int) ^ k) = (Pk : Int) := by
    have hlt := two_lt k64
    have e : ((2 : Int) ^ k) = ((2 ^ k : Nat) : Int) := by simp
    rw [e, hPk0, IntKind.wrap_u64]
    rw [hPk0] at hlt
    omega
  have wi : IntKind.u64.wrap ((2 : Int) ^ i) = (Pi : Int) := by
    have hlt := two_lt i64
    have e : ((2 : Int) ^ i) = ((2 ^ i : Nat) : Int) := by simp
    rw [e, hPi0, IntKind.wrap_u64]
    rw [hPi0] at hlt
    omega
  have HL1 := Lib.hid h
  have HK1 := Lib.hid (Kp.refl (fun b => b = g) w)
  clear h hm hPk0 hPi0 c1 ci gi
  obtain ⟨x1, hx1⟩ : ∃ x, (a).getD i 0 = x := ⟨_, rfl⟩
  have xs1 : x1 < 2 ^ 64 := by
    rw [← hx1, List.getD_eq_getElem?_getD, List.getElem?_eq_getElem (by first | omega | (simp; omega))]
    exact HL1.out.small _ (List.getElem_mem _)
  have c1 := HL1.out.box.cell 1
  have ci := HL1.out.at_ (i := i) (by first | omega | (simp; omega))
  have gi := HL1.out.row.frozen i
  rw [hx1] at ci
  obtain ⟨y1, hy1⟩ : ∃ y, off x1 k = y := ⟨_, rfl⟩
  have ys1 : y1 < 2 ^ 64 := by rw [← hy1]; first | exact off_lt xs1 | exact on_lt xs1 (by omega)
  have eb : bits BinOp.andNot IntKind.u64 (x1 : Int) (Pk : Int) = (y1 : Int) := by
    rw [← hy1]
    first
      | (rw [u64_andNot_nat _ _ xs1 (by rw [← hPk.out]; exact two_lt (by omega)), ← hPk.out]; rfl)
      | (rw [bits_or_u64_nat _ _ xs1 (by rw [← hPk.out]; exact two_lt (by omega)), ← hPk.out]; rfl)
  have HX1 := Lib.hid hx1
  have HY1 := Lib.hid hy1
  have HYS1 := Lib.hid ys1
  clear hx1 hy1 xs1 ys1
  go_enter Tryd.func14, Tryd.ntmps14
  go_wp2_with (go_at_call 21; (with_reducible refine Calls.mono CM.out ?_); rintro e w1 ⟨rfl, rfl⟩)
  go_region
  have HL2 := Lib.hid (show Ln (w.setCell ⟨g, i, none⟩ (.int .u64 (y1 : Nat))).drew p g ((a).set i y1) from (HL1.out.put i y1 HYS1.out).drew_)
  have HK2 := Lib.hid (HK1.out.trans (show Kp (fun b => b = g) w (w.setCell ⟨g, i, none⟩ (.int .u64 (y1 : Nat))).drew from ((Kp.refl (fun b => b = g) w).set_ ⟨g, i, none⟩ (.inl rfl) _).drew))
  clear c1 ci gi eb HL1 HK1 HYS1
  generalize (w.setCell ⟨g, i, none⟩ (.int .u64 (y1 : Nat))).drew = w2 at HL2 HK2 ⊢
  obtain ⟨x2, hx2⟩ : ∃ x, (a.set i y1).getD k 0 = x := ⟨_, rfl⟩
  have xs2 : x2 < 2 ^ 64 := by
    rw [← hx2, List.getD_eq_getElem?_getD, List.getElem?_eq_getElem (by first | omega | (simp; omega))]
    exact HL2.out.small _ (List.getElem_mem _)
  have c1 := HL2.out.box.cell 1
  have ci := HL2.out.at_ (i := k) (by first | omega | (simp; omega))
  have gi := HL2.out.row.frozen k
  rw [hx2] at ci
  obtain ⟨y2, hy2⟩ : ∃ y, off x2 i = y := ⟨_, rfl⟩
  have ys2 : y2 < 2 ^ 64 := by rw [← hy2]; first | exact off_lt xs2 | exact on_lt xs2 (by omega)
  have eb : bits BinOp.andNot IntKind.u64 (x2 : Int) (Pi : Int) = (y2 : Int) := by
    rw [← hy2]
    first
      | (rw [u64_andNot_nat _ _ xs2 (by rw [← hPi.out]; exact two_lt (by omega)), ← hPi.out]; rfl)
      | (rw [bits_or_u64_nat _ _ xs2 (by rw [← hPi.out]; exact two_lt (by omega)), ← hPi.out]; rfl)
  have HX2 := Lib.hid hx2
  have HY2 := Lib.hid hy2
  have HYS2 := Lib.hid ys2
  clear hx2 hy2 xs2 ys2
  go_wp2_with fail
  go_region
  have HL3 := Lib.hid (show Ln (w2.setCell ⟨g, k, none⟩ (.int .u64 (y2 : Nat))).drew p g ((a.set i y1).set k y2) from (HL2.out.put k y2 HYS2.out).drew_)
  have HK3 := Lib.hid (HK2.out.trans (show Kp (fun b => b = g) w2 (w2.setCell ⟨g, k, none⟩ (.int .u64 (y2 : Nat))).drew from ((Kp.refl (fun b => b = g) w2).set_ ⟨g, k, none⟩ (.inl rfl) _).drew))
  clear c1 ci gi eb HL2 HK2 HYS2
  generalize (w2.setCell ⟨g, k, none⟩ (.int .u64 (y2 : Nat))).drew = w3 at HL3 HK3 ⊢
  go_wp2
  go_ret
  refine ⟨rfl, ?_, HK3.out⟩
  have h5 := HL3.out
  rw [← HY2.out, ← HX2.out, ← HY1.out, ← HX1.out] at h5
  exact h5
theorem set_nil (i k : Int) (o : Bool) (w : World) : Calls Tryd.prog 14 #[.pointer none, .int .i64 i, .int .i64 k, .bool o] w fun e w' => e = .returned (.int .i64 2) ∧ w = w' := by
  go_enter Tryd.func14, Tryd.ntmps14
  go_wp2
  go_ret
  exact ⟨rfl, rfl⟩
theorem set_no (p g : Nat) (a : List Nat) (i k : Int) (o : Bool) (hm : (isn a i && isn a k && !(i == k)) = false) (w : World) (h : Ln w p g a) :
    Calls Tryd.prog 14 #[.pointer (some ⟨p, 0, none⟩), .int .i64 i, .int .i64 k, .bool o] w fun e w' => e = .returned (.int .i64 1) ∧ w = w' := by
  have CM := Lib.hid (hm ▸ may_any (some ⟨p, 0, none⟩) a i k w (.inr ⟨p, g, rfl, h⟩))
  clear h hm
  go_enter Tryd.func14, Tryd.ntmps14
  go_wp2_with (go_at_call 21; (with_reducible refine Calls.mono CM.out ?_); rintro e w1 ⟨rfl, rfl⟩)
  go_ret
  exact ⟨rfl, rfl⟩
theorem set_yes (p g : Nat) (a : List Nat) (i k : Nat) (o : Bool) (hi : i < a.length) (hk : k < a.length) (hik : i ≠ k) (w : World) (h : Ln w p g a) :
    Calls Tryd.prog 14 #[.pointer (some ⟨p, 0, none⟩), .int .i64 i, .int .i64 k, .bool o] w fun e w' => e = .returned (.int .i64 0) ∧ Ln w' p g (link a i k o) ∧ Kp (fun b => b = g) w w' := by
  cases o
  · exact set_off p g a i k hi hk hik w h
  · exact set_on p g a i k hi hk hik w h
end Go.Proofs.YtofflnklbdhaiaaDoor.Lk
