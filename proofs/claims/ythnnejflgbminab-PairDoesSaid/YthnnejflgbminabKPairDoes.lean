/- In every script each answer, whether it waits, and how long it rests, are the document's; what can't be is refused; a nil node. No condition. -/
import Derived.Test.YthnnejflgbminabRp2
import Derived.Test.YthnnejflgbminabLf
namespace Go.Proofs.Ythnnejflgbminab.PairDoesW
open Go.RowKit Go.Proofs.Ythnnejflgbminab.Bk Go.Proofs.Ythnnejflgbminab.Rw Go.Proofs.Ythnnejflgbminab.Ow Go.Proofs.Ythnnejflgbminab.Kp Go.Proofs.Ythnnejflgbminab.Sq Go.Proofs.Ythnnejflgbminab.Sq2 Go.Proofs.Ythnnejflgbminab.Ck Go.Proofs.Ythnnejflgbminab.Ck2 Go.Proofs.Ythnnejflgbminab.Tm Go.Proofs.Ythnnejflgbminab.Pr

theorem elem1 {w : World} {A : Option Addr} {len : Nat} {vs : List (List Value)} (h : Lf.RowsAt w [.i .i64, .i .i64, .i .i64, .i .i64, .i .i64, .i .i64, .i .i64, .i .u16, .i .u16, .i .i64, .i .i64, .i .i64, .i .i64, .i .i64, .i .i64, .i .i64, .i .i64] A len vs) {k : Nat} (hk : k < len) :
    ∃ (ad : Addr) (x0 : Int) (x1 : Int) (x2 : Int) (x3 : Int) (x4 : Int) (x5 : Int) (x6 : Int) (x7 : Int) (x8 : Int) (x9 : Int) (x10 : Int) (x11 : Int) (x12 : Int) (x13 : Int) (x14 : Int) (x15 : Int) (x16 : Int), A = some ad ∧ vs[k]? = some [.int .i64 x0, .int .i64 x1, .int .i64 x2, .int .i64 x3, .int .i64 x4, .int .i64 x5, .int .i64 x6, .int .u16 x7, .int .u16 x8, .int .i64 x9, .int .i64 x10, .int .i64 x11, .int .i64 x12, .int .i64 x13, .int .i64 x14, .int .i64 x15, .int .i64 x16] ∧ w.cell? (ad.add (k * 17)) = some (.int .i64 x0) ∧ w.cell? ⟨(ad.add (k * 17)).block, (ad.add (k * 17)).off + 1, none⟩ = some (.int .i64 x1) ∧ w.cell? ⟨(ad.add (k * 17)).block, (ad.add (k * 17)).off + 2, none⟩ = some (.int .i64 x2) ∧ w.cell? ⟨(ad.add (k * 17)).block, (ad.add (k * 17)).off + 3, none⟩ = some (.int .i64 x3) ∧ w.cell? ⟨(ad.add (k * 17)).block, (ad.add (k * 17)).off + 4, none⟩ = some (.int .i64 x4) ∧ w.cell? ⟨(ad.add (k * 17)).block, (ad.add (k * 17)).off + 5, none⟩ = some (.int .i64 x5) ∧ w.cell? ⟨(ad.add (k * 17)).block, (ad.add (k * 17)).off + 6, none⟩ = some (.int .i64 x6) ∧ w.cell? ⟨(ad.add (k * 17)).block, (ad.add (k * 17)).off + 7, none⟩ = some (.int .u16 x7) ∧ w.cell? ⟨(ad.add (k * 17)).block, (ad.add (k * 17)).off + 8, none⟩ = some (.int .u16 x8) ∧ w.cell? ⟨(ad.add (k * 17)).block, (ad.add (k * 17)).off + 9, none⟩ = some (.int .i64 x9) ∧ w.cell? ⟨(ad.add (k * 17)).block, (ad.add (k * 17)).off + 10, none⟩ = some (.int .i64 x10) ∧ w.cell? ⟨(ad.add (k * 17)).block, (ad.add (k * 17)).off + 11, none⟩ = some (.int .i64 x11) ∧ w.cell? ⟨(ad.add (k * 17)).block, (ad.add (k * 17)).off + 12, none⟩ = some (.int .i64 x12) ∧ w.cell? ⟨(ad.add (k * 17)).block, (ad.add (k * 17)).off + 13, none⟩ = some (.int .i64 x13) ∧ w.cell? ⟨(ad.add (k * 17)).block, (ad.add (k * 17)).off + 14, none⟩ = some (.int .i64 x14) ∧ w.cell? ⟨(ad.add (k * 17)).block, (ad.add (k * 17)).off + 15, none⟩ = some (.int .i64 x15) ∧ w.cell? ⟨(ad.add (k * 17)).block, (ad.add (k * 17)).off + 16, none⟩ = some (.int .i64 x16) ∧ (Lit.int .i64 x0).wf = true ∧ (Lit.int .i64 x1).wf = true ∧ (Lit.int .i64 x2).wf = true ∧ (Lit.int .i64 x3).wf = true ∧ (Lit.int .i64 x4).wf = true ∧ (Lit.int .i64 x5).wf = true ∧ (Lit.int .i64 x6).wf = true ∧ (Lit.int .u16 x7).wf = true ∧ (Lit.int .u16 x8).wf = true ∧ (Lit.int .i64 x9).wf = true ∧ (Lit.int .i64 x10).wf = true ∧ (Lit.int .i64 x11).wf = true ∧ (Lit.int .i64 x12).wf = true ∧ (Lit.int .i64 x13).wf = true ∧ (Lit.int .i64 x14).wf = true ∧ (Lit.int .i64 x15).wf = true ∧ (Lit.int .i64 x16).wf = true := by
  obtain ⟨ad, c, rfl, hv, hL, hc0, hcj⟩ := h.elem hk
  obtain ⟨u0, g0, q0, ⟨x0, e0, f0⟩, L0⟩ := hL.cons
  obtain ⟨u1, g1, q1, ⟨x1, e1, f1⟩, L1⟩ := L0.cons
  obtain ⟨u2, g2, q2, ⟨x2, e2, f2⟩, L2⟩ := L1.cons
  obtain ⟨u3, g3, q3, ⟨x3, e3, f3⟩, L3⟩ := L2.cons
  obtain ⟨u4, g4, q4, ⟨x4, e4, f4⟩, L4⟩ := L3.cons
  obtain ⟨u5, g5, q5, ⟨x5, e5, f5⟩, L5⟩ := L4.cons
  obtain ⟨u6, g6, q6, ⟨x6, e6, f6⟩, L6⟩ := L5.cons
  obtain ⟨u7, g7, q7, ⟨x7, e7, f7⟩, L7⟩ := L6.cons
  obtain ⟨u8, g8, q8, ⟨x8, e8, f8⟩, L8⟩ := L7.cons
  obtain ⟨u9, g9, q9, ⟨x9, e9, f9⟩, L9⟩ := L8.cons
  obtain ⟨u10, g10, q10, ⟨x10, e10, f10⟩, L10⟩ := L9.cons
  obtain ⟨u11, g11, q11, ⟨x11, e11, f11⟩, L11⟩ := L10.cons
  obtain ⟨u12, g12, q12, ⟨x12, e12, f12⟩, L12⟩ := L11.cons
  obtain ⟨u13, g13, q13, ⟨x13, e13, f13⟩, L13⟩ := L12.cons
  obtain ⟨u14, g14, q14, ⟨x14, e14, f14⟩, L14⟩ := L13.cons
  obtain ⟨u15, g15, q15, ⟨x15, e15, f15⟩, L15⟩ := L14.cons
  obtain ⟨u16, g16, q16, ⟨x16, e16, f16⟩, L16⟩ := L15.cons
  have n_ := L16.nil
  have hcc : c = [.int .i64 x0, .int .i64 x1, .int .i64 x2, .int .i64 x3, .int .i64 x4, .int .i64 x5, .int .i64 x6, .int .u16 x7, .int .u16 x8, .int .i64 x9, .int .i64 x10, .int .i64 x11, .int .i64 x12, .int .i64 x13, .int .i64 x14, .int .i64 x15, .int .i64 x16] := by rw [q0, e0, q1, e1, q2, e2, q3, e3, q4, e4, q5, e5, q6, e6, q7, e7, q8, e8, q9, e9, q10, e10, q11, e11, q12, e12, q13, e13, q14, e14, q15, e15, q16, e16, n_]
  rw [hcc] at hv hc0 hcj
  exact ⟨ad, x0, x1, x2, x3, x4, x5, x6, x7, x8, x9, x10, x11, x12, x13, x14, x15, x16, rfl, hv, hc0 _ rfl, hcj 0 _ rfl, hcj 1 _ rfl, hcj 2 _ rfl, hcj 3 _ rfl, hcj 4 _ rfl, hcj 5 _ rfl, hcj 6 _ rfl, hcj 7 _ rfl, hcj 8 _ rfl, hcj 9 _ rfl, hcj 10 _ rfl, hcj 11 _ rfl, hcj 12 _ rfl, hcj 13 _ rfl, hcj 14 _ rfl, hcj 15 _ rfl, f0, f1, f2, f3, f4, f5, f6, f7, f8, f9, f10, f11, f12, f13, f14, f15, f16⟩

theorem boxc {w : World} {b : Nat} {t : TypeId} {x0 x1 x2 x3 x4 x5 x6 x7 x8 x9 x10 x11 x12 x13 x14 x15 x16 : Int} (h : Blk w b t #[.int .i64 x0, .int .i64 x1, .int .i64 x2, .int .i64 x3, .int .i64 x4, .int .i64 x5, .int .i64 x6, .int .u16 x7, .int .u16 x8, .int .i64 x9, .int .i64 x10, .int .i64 x11, .int .i64 x12, .int .i64 x13, .int .i64 x14, .int .i64 x15, .int .i64 x16]) : w.cell? ⟨b, 2, none⟩ = some (.int .i64 x2) ∧ w.cell? ⟨b, 3, none⟩ = some (.int .i64 x3) ∧ w.cell? ⟨b, 4, none⟩ = some (.int .i64 x4) ∧ w.cell? ⟨b, 5, none⟩ = some (.int .i64 x5) ∧ w.cell? ⟨b, 6, none⟩ = some (.int .i64 x6) ∧ w.cell? ⟨b, 7, none⟩ = some (.int .u16 x7) ∧ w.cell? ⟨b, 8, none⟩ = some (.int .u16 x8) ∧ w.cell? ⟨b, 9, none⟩ = some (.int .i64 x9) ∧ w.cell? ⟨b, 10, none⟩ = some (.int .i64 x10) ∧ w.cell? ⟨b, 11, none⟩ = some (.int .i64 x11) ∧ w.cell? ⟨b, 12, none⟩ = some (.int .i64 x12) ∧ w.cell? ⟨b, 13, none⟩ = some (.int .i64 x13) ∧ w.cell? ⟨b, 14, none⟩ = some (.int .i64 x14) ∧ w.cell? ⟨b, 15, none⟩ = some (.int .i64 x15) ∧ w.cell? ⟨b, 16, none⟩ = some (.int .i64 x16) := ⟨h.cell 2, h.cell 3, h.cell 4, h.cell 5, h.cell 6, h.cell 7, h.cell 8, h.cell 9, h.cell 10, h.cell 11, h.cell 12, h.cell 13, h.cell 14, h.cell 15, h.cell 16⟩
theorem ask_gen (me : Int) (s : St) (tt loc : Int) (hs : StOk s) : ∃ (f0 f1 f2 : Int) (v : Bool) (s2 : St) (kd : Int), (kd == 4) = v ∧ StOk s2 ∧
    (∀ p w, Pd w p me s → Calls Try.prog 16 #[.pointer (some ⟨p, 0, none⟩), .int .i64 tt, .int .i64 loc] w fun e w' => e = .returned (.tuple #[.agg #[.int .i64 f0, .int .i64 f1, .int .i64 f2], .bool v]) ∧ Pd w' p me s2 ∧ Kp (fun k => k = p) w w') ∧
    ∀ r w, Rd w r me s → Calls Try.prog 23 #[.pointer (some ⟨r, 0, none⟩), .int .i64 tt, .int .i64 loc] w fun e w' => e = .returned (.agg #[.int .i64 kd, .int .i64 f0, .int .i64 f1, .int .i64 0, .int .u16 0, .int .u16 0, .int .i64 0, .int .i64 0, .int .i64 0, .int .i64 f2, .int .i64 0, .int .i64 0, .int .i64 0, .int .i64 0]) ∧ Rd w' r me s2 ∧ Kp (fun k => k = r) w w' := by
  by_cases hk : askOk me s tt loc = true
  · refine ⟨me, tt, loc, true, asked s tt loc, 4, rfl, hs.asked _ _, fun p w h => ask_ok p me s tt loc w h hk, fun r w h => ?_⟩
    unfold askOk at hk
    simp only [Bool.not_eq_true', Bool.or_eq_false_iff, decide_eq_false_iff_not, Bool.not_eq_false'] at hk
    obtain ⟨⟨⟨k1, k2⟩, k3⟩, k4⟩ := hk
    exact rask_yes r me s tt loc w h k1 k2 k3 k4
  · have hk2 : askOk me s tt loc = false := by simpa using hk
    refine ⟨0, 0, 0, false, s, 0, rfl, hs, fun p w h => (ask_no p me s tt loc w h hk2).mono fun e w' ⟨h1, h2⟩ => ⟨h1, h.keeps h2, Kp.of_below h2⟩, fun r w h => ?_⟩
    have no : ∀ {e : Ending} {w' : World}, (e = .returned (.agg #[.int .i64 0, .int .i64 0, .int .i64 0, .int .i64 0, .int .u16 0, .int .u16 0, .int .i64 0, .int .i64 0, .int .i64 0, .int .i64 0, .int .i64 0, .int .i64 0, .int .i64 0, .int .i64 0]) ∧ Below w.heap.size w w') → e = .returned (.agg #[.int .i64 0, .int .i64 0, .int .i64 0, .int .i64 0, .int .u16 0, .int .u16 0, .int .i64 0, .int .i64 0, .int .i64 0, .int .i64 0, .int .i64 0, .int .i64 0, .int .i64 0, .int .i64 0]) ∧ Rd w' r me s ∧ Kp (fun k => k = r) w w' := fun ⟨h1, h2⟩ => ⟨h1, h.keeps h2, Kp.of_below h2⟩
    unfold askOk at hk2
    by_cases c1 : s.waiting = true
    · exact (rask_no1 r me s tt loc w h c1).mono fun e w' hh => no hh
    by_cases c2 : 0 < s.rest
    · exact (rask_no2 r me s tt loc w h (by simpa using c1) c2).mono fun e w' hh => no hh
    by_cases c3 : (tt == me) = true
    · exact (rask_no3 r me s tt loc w h (by simpa using c1) c2 c3).mono fun e w' hh => no hh
    · refine (rask_no4 r me s tt loc w h (by simpa using c1) c2 (by simpa using c3) ?_).mono fun e w' hh => no hh
      simp only [Bool.not_eq_true] at c1 c3
      simpa [c1, c2, c3] using hk2
theorem hear_gen (me : Int) (s : St) (x3 x4 x5 x6 x7 x8 x9 x10 x11 x12 x13 x14 x15 x16 loc : Int) (hs : StOk s) (h0 : -9223372036854775808 ≤ x9) (h1 : x9 ≤ 9223372036854775807) : ∃ (v0 v1 v2 : Int) (v : Bool) (s2 : St), StOk s2 ∧
    (∀ p w, Pd w p me s → Calls Try.prog 17 #[.pointer (some ⟨p, 0, none⟩), .agg #[.int .i64 x4, .int .i64 x5, .int .i64 x12, .int .i64 x13, .int .i64 x14, .int .i64 x6, .int .u16 x7, .int .i64 x9], .int .i64 loc] w fun e w' => e = .returned (.tuple #[.agg #[.int .i64 v0, .int .i64 v1, .int .i64 v2], .bool v]) ∧ Pd w' p me s2 ∧ Kp (fun k => k = p) w w') ∧
    ∀ r w, Rd w r me s → Calls Try.prog 24 #[.pointer (some ⟨r, 0, none⟩), .agg #[.int .i64 x3, .int .i64 x4, .int .i64 x5, .int .i64 x6, .int .u16 x7, .int .u16 x8, .int .i64 x9, .int .i64 x10, .int .i64 x11, .int .i64 x12, .int .i64 x13, .int .i64 x14, .int .i64 x15, .int .i64 x16], .int .i64 loc] w fun e w' => e = .returned (.tuple #[.agg #[.int .i64 v0, .int .i64 v1, .int .i64 v2], .bool v]) ∧ Rd w' r me s2 ∧ Kp (fun k => k = r) w w' := by
  by_cases hk : hearOk me s x4 x5 x12 x13 x14 x9 loc = true
  · refine ⟨loc, offs x12 x13 x14 loc, x9 + 1, true, heard s, hs.heard, fun p w h => hear_ok p me s x4 x5 x12 x13 x14 x6 x7 x9 loc w h hk, fun r w h => ?_⟩
    obtain ⟨st, ss, sw, sd, sv, sr⟩ := s
    unfold hearOk at hk
    simp only [Bool.and_eq_true, beq_iff_eq, decide_eq_true_eq] at hk
    obtain ⟨⟨⟨⟨⟨k1, k2⟩, k3⟩, k4⟩, k5⟩, k6, k7⟩ := hk
    subst k1
    exact rhear_yes r me st ss sd sv sr x3 x4 x5 x6 x7 x8 x9 x10 x11 x12 x13 x14 x15 x16 loc w h (by simpa using k2) (by simpa using k3) (by simpa using k4) k5 k6 k7
  · have hk2 : hearOk me s x4 x5 x12 x13 x14 x9 loc = false := by simpa using hk
    refine ⟨0, 0, 0, false, s, hs, fun p w h => (hear_no p me s x4 x5 x12 x13 x14 x6 x7 x9 loc w h hk2 h0 h1).mono fun e w' ⟨h1, h2⟩ => ⟨h1, h.keeps h2, Kp.of_below h2⟩, fun r w h => ?_⟩
    have no : ∀ {e : Ending} {w' : World}, (e = .returned (.tuple #[.agg #[.int .i64 0, .int .i64 0, .int .i64 0], .bool false]) ∧ Below w.heap.size w w') → e = .returned (.tuple #[.agg #[.int .i64 0, .int .i64 0, .int .i64 0], .bool false]) ∧ Rd w' r me s ∧ Kp (fun k => k = r) w w' := fun ⟨h1, h2⟩ => ⟨h1, h.keeps h2, Kp.of_below h2⟩
    obtain ⟨st, ss, sw, sd, sv, sr⟩ := s
    unfold hearOk at hk2
    simp only at hk2
    cases sw with
    | false => exact (rhear_no1 r me st ss sd sv sr x3 x4 x5 x6 x7 x8 x9 x10 x11 x12 x13 x14 x15 x16 loc w h).mono fun e w' hh => no hh
    | true =>
      by_cases c1 : x5 = me
      rotate_left
      · exact (rhear_no2 r me st ss sd sv sr x3 x4 x5 x6 x7 x8 x9 x10 x11 x12 x13 x14 x15 x16 loc w h (by simpa using c1)).mono fun e w' hh => no hh
      by_cases c2 : x4 = st
      rotate_left
      · exact (rhear_no3 r me st ss sd sv sr x3 x4 x5 x6 x7 x8 x9 x10 x11 x12 x13 x14 x15 x16 loc w h (by simpa using c1) (by simpa using c2)).mono fun e w' hh => no hh
      by_cases c3 : x12 = ss
      rotate_left
      · exact (rhear_no4 r me st ss sd sv sr x3 x4 x5 x6 x7 x8 x9 x10 x11 x12 x13 x14 x15 x16 loc w h (by simpa using c1) (by simpa using c2) (by simpa using c3)).mono fun e w' hh => no hh
      by_cases hg : tg x12 x13 x14 loc = true
      rotate_left
      · exact (rhear_no5 r me st ss sd sv sr x3 x4 x5 x6 x7 x8 x9 x10 x11 x12 x13 x14 x15 x16 loc w h (by simpa using c1) (by simpa using c2) (by simpa using c3) (by simpa using hg)).mono fun e w' hh => no hh
      rw [show (x5 == me) = true by simpa using c1, show (x4 == st) = true by simpa using c2, show (x12 == ss) = true by simpa using c3, hg] at hk2
      have hk3 : ¬ (0 ≤ x9 ∧ x9 ≤ 62) := of_decide_eq_false hk2
      by_cases hh : x9 < 0
      · exact (rhear_no6 r me st ss sd sv sr x3 x4 x5 x6 x7 x8 x9 x10 x11 x12 x13 x14 x15 x16 loc w h (by simpa using c1) (by simpa using c2) (by simpa using c3) hg hh).mono fun e w' hh => no hh
      · exact (rhear_no7 r me st ss sd sv sr x3 x4 x5 x6 x7 x8 x9 x10 x11 x12 x13 x14 x15 x16 loc w h (by simpa using c1) (by simpa using c2) (by simpa using c3) hg hh (by omega)).mono fun e w' hh => no hh
theorem hear_nil (w : World) : Calls Try.prog 17 #[.pointer none, .agg #[.int .i64 0, .int .i64 0, .int .i64 0, .int .i64 0, .int .i64 0, .int .i64 0, .int .u16 0, .int .i64 0], .int .i64 1] w fun e w' => e = .returned (.tuple #[.agg #[.int .i64 0, .int .i64 0, .int .i64 0], .bool false]) ∧ Below w.heap.size w w' := by
  have HZ := Lib.hid (show Blk ((w.alloc (.cells #[.int .i64 0, .int .i64 0, .int .i64 0, .int .i64 0, .int .i64 0, .int .i64 0, .int .u16 0, .int .i64 0] 47)).alloc (.cells #[.int .i64 0, .int .i64 0, .int .i64 0] 43)).drew (w.heap.size + 1) 43 #[.int .i64 0, .int .i64 0, .int .i64 0] from (new_at (by simp)).drew)
  have HB := Lib.hid (show Below w.heap.size w ((w.alloc (.cells #[.int .i64 0, .int .i64 0, .int .i64 0, .int .i64 0, .int .i64 0, .int .i64 0, .int .u16 0, .int .i64 0] 47)).alloc (.cells #[.int .i64 0, .int .i64 0, .int .i64 0] 43)).drew from below_drew (((Below.refl _ w).alloc (Nat.le_refl _) _).alloc (by simp) _))
  go_enter Try.func17, Try.ntmps17
  go_wp2
  refine wp_region_seq [(0, true), (1, true), (2, true), (3, true), (4, true), (5, true), (6, true), (7, true), (8, true), (9, true), (10, true), (11, true), (12, true), (13, true), (14, true), (15, true), (16, true), (17, true), (18, true), (19, true), (20, true), (21, true), (22, true), (23, true), (24, true), (25, true), (26, true), (27, true), (28, true), (29, true), (30, true), (31, true), (32, true), (33, true), (34, true), (35, true)] (fun w' => True) (by kernel_rfl) (by kernel_rfl) trivial (fun hHeld => ?_)
  simp only [List.map_cons, List.map_nil, List.getElem?_toArray, List.getElem?_cons_zero, List.getElem?_cons_succ]
  repeat (first | (refine seq_skip (by rfl) ?_; try simp only [Act.put, List.setIfInBounds_toArray, List.set_cons_zero, List.set_cons_succ]) | (refine seq_not (by rfl) (by assumption) ?_; try simp only [Act.put, List.setIfInBounds_toArray, List.set_cons_zero, List.set_cons_succ]) | (refine seq_take (v := ?_) (by rfl) ?_ ?_; rotate_left; (focus ((intro w hSw; (try dsimp only at hSw); go_simp; (try with_reducible rfl)); done)); try simp only [Act.put, List.setIfInBounds_toArray, List.set_cons_zero, List.set_cons_succ]))
  refine seq_done ?_
  clear hHeld
  generalize ((w.alloc (.cells #[.int .i64 0, .int .i64 0, .int .i64 0, .int .i64 0, .int .i64 0, .int .i64 0, .int .u16 0, .int .i64 0] 47)).alloc (.cells #[.int .i64 0, .int .i64 0, .int .i64 0] 43)).drew = w2 at HZ HB ⊢
  have hy := cells3 HZ.out
  obtain ⟨z0, z1, z2, z3, z4, z5⟩ := hy
  go_wp2
  have h1 := HZ.out
  have h2 := HB.out
  refine ret_hear _ _ _ (w.heap.size + 1) 43 0 0 0 false rfl rfl rfl ?_ ⟨rfl, ?_⟩
  · ((repeat (first | (with_reducible assumption) | (with_reducible apply Blk.drew) | (with_reducible apply set_at2) | ((with_reducible apply set_far); (focus omega)) | (with_reducible apply Blk.alloc))); all_goals rfl)
  · (repeat (first | (with_reducible assumption) | (with_reducible apply below_drew) | ((with_reducible apply below_set); (focus omega)) | ((with_reducible apply below_at); (focus ((try simp only [size_set, size_drew, World.size_alloc]); omega)))))

set_option maxRecDepth 100000 in
set_option maxHeartbeats 8000000 in
set_option linter.unusedVariables false in
theorem walk (a0 : Int) (a1 : Option Addr) (len1 cap1 : Nat) (z1 : List (List Value)) (W : World) (w0 : (Lit.int .i64 a0).wf = true) (l1 : len1 ≤ cap1) (m1 : cap1 ≤ maxLen) (w1 : Lf.RowsAt W [.i .i64, .i .i64, .i .i64, .i .i64, .i .i64, .i .i64, .i .i64, .i .u16, .i .u16, .i .i64, .i .i64, .i .i64, .i .i64, .i .i64, .i .i64, .i .i64, .i .i64] a1 len1 z1) :
    Calls Try.prog 7 #[.int .i64 a0, .slice a1 len1 cap1] W fun e w' => e = .returned (.bool true) ∧ Below W.heap.size W w' := by
  have hl8 : len1 ≤ 9223372036854775807 := by unfold maxLen at m1; omega
  have R := Lib.hid w1
  clear w0 w1 m1
  by_cases c3 : (200 : Int) < len1
  · go_enter Try.func7, Try.ntmps7
    go_wp2_with (go_at_call 8; refine (alive_ok _).mono ?_; rintro e w1 ⟨rfl, hb⟩; have HB := Lib.hid hb; clear hb)
    go_ret
    exact ⟨rfl, HB.out⟩
  by_cases c1 : a0 < 0 ∨ 63 < a0
  · have N0 := Lib.hid (fun w => new_no a0 w c1)
    have c0 : a0 < 0 ∨ (¬ a0 < 0 ∧ 63 < a0) := by omega
    clear c1
    rcases c0 with c0 | ⟨c0, c1⟩
    all_goals
      go_enter Try.func7, Try.ntmps7
      go_wp2_with (first
        | (go_at_call 8; (with_reducible refine Calls.mono (alive_ok _) ?_); rintro e w1 ⟨rfl, hb⟩; have HB := Lib.hid hb; clear hb)
        | (go_at_call 15; (with_reducible refine Calls.mono (N0.out _) ?_); rintro e w1 ⟨rfl, rfl⟩)
        | (go_at_call 22; (with_reducible refine Calls.mono (boot_nil _) ?_); rintro e w1 ⟨rfl, rfl⟩)
        | (go_at_call 16; (with_reducible refine Calls.mono (ask_nil _ _ _) ?_); rintro e w2 ⟨rfl, hb⟩; have HB3 := Lib.hid ((HB.out.trans (hb.mono HB.out.size)).alloc (Nat.le_trans HB.out.size hb.size) (.cells #[.int .i64 0, .int .i64 0, .int .i64 0] 36)); clear hb)
        | (go_at_call 17; (with_reducible refine Calls.mono (hear_nil _) ?_); rintro e w4 ⟨rfl, hb⟩; have HB4 := Lib.hid ((HB3.out.trans (hb.mono HB3.out.size)).alloc (Nat.le_trans HB3.out.size hb.size) (.cells #[.int .i64 0, .int .i64 0, .int .i64 0] 43)); clear hb)
        | (go_at_call 19; (with_reducible refine Calls.mono (beat_nil _) ?_); rintro e w1 ⟨rfl, rfl⟩)
        | (go_at_call 20; (with_reducible refine Calls.mono (waits_nil _) ?_); rintro e w1 ⟨rfl, rfl⟩)
        | (go_at_call 21; (with_reducible refine Calls.mono (rests_nil _) ?_); rintro e w1 ⟨rfl, rfl⟩))
      go_ret
      exact ⟨rfl, HB4.out⟩
  have c2 : 0 ≤ a0 ∧ a0 ≤ 63 := by omega
  obtain ⟨c4, c5⟩ := c2
  clear c1
  go_enter Try.func7, Try.ntmps7
  go_wp2_with fail
  refine (alive_ok _).mono ?_
  rintro e w1 ⟨rfl, hb⟩
  have B1 := Lib.hid hb
  clear hb
  go_wp2_with fail
  refine (new_ok a0 _ c4 c5).mono ?_
  rintro e w2 ⟨rfl, rfl⟩
  have hp : Pd (w1.alloc (.cells (st0.cs a0) 68)) w1.heap.size a0 st0 := Blk.new _ _ _
  have hb := B1.out.alloc B1.out.size (.cells (st0.cs a0) 68)
  have hz := B1.out.size
  generalize w1.alloc (.cells (st0.cs a0) 68) = w2 at hp hb ⊢
  generalize w1.heap.size = p at hp hz ⊢
  have HP := Lib.hid hp
  have HB := Lib.hid hb
  clear hp hb B1
  go_wp2_with (first
    | (go_at_call 22; (with_reducible refine Calls.mono (boot_nil _) ?_); rintro e w1 ⟨rfl, rfl⟩)
    | (go_at_call 16; (with_reducible refine Calls.mono (ask_nil _ _ _) ?_); rintro e w3 ⟨rfl, hb⟩; have HB3 := Lib.hid ((HB.out.trans (hb.mono HB.out.size)).alloc (Nat.le_trans HB.out.size hb.size) (.cells #[.int .i64 0, .int .i64 0, .int .i64 0] 36)); have HP3 := Lib.hid ((HP.out.keeps hb).alloc (.cells #[.int .i64 0, .int .i64 0, .int .i64 0] 36)); clear hb)
    | (go_at_call 17; (with_reducible refine Calls.mono (hear_nil _) ?_); rintro e w4 ⟨rfl, hb⟩; have HB4 := Lib.hid ((HB3.out.trans (hb.mono HB3.out.size)).alloc (Nat.le_trans HB3.out.size hb.size) (.cells #[.int .i64 0, .int .i64 0, .int .i64 0] 43)); have HP4 := Lib.hid ((HP3.out.keeps hb).alloc (.cells #[.int .i64 0, .int .i64 0, .int .i64 0] 43)); clear hb)
    | (go_at_call 19; (with_reducible refine Calls.mono (beat_nil _) ?_); rintro e w1 ⟨rfl, rfl⟩)
    | (go_at_call 20; (with_reducible refine Calls.mono (waits_nil _) ?_); rintro e w1 ⟨rfl, rfl⟩)
    | (go_at_call 21; (with_reducible refine Calls.mono (rests_nil _) ?_); rintro e w1 ⟨rfl, rfl⟩))
  have hz4 := HB4.out.size
  have HR5 := Lib.hid (show Rd ((w4.alloc (.cells #[.int .i64 0, .int .i64 0, .int .i64 0] 43)).alloc (.cells (st0.cs a0) 54)) (w4.heap.size + 1) a0 st0 from new_at (by simp))
  have HP5 := Lib.hid (HP4.out.alloc (.cells (st0.cs a0) 54))
  have HB5 := Lib.hid (HB4.out.alloc HB4.out.size (.cells (st0.cs a0) 54))
  go_loopw [12, 79] (fun m i wr => ∃ (k r : Nat) (s : St), k ≤ len1 ∧ i = .int .i64 k ∧ m = .pointer (some ⟨r, 0, none⟩) ∧ W.heap.size ≤ r ∧ StOk s ∧ Pd wr p a0 s ∧ Rd wr r a0 s ∧ Below W.heap.size W wr) (fun _ i _ => len1 - (intOf i).toNat)
  case atStart => exact ⟨0, _, st0, Nat.zero_le _, rfl, rfl, by simp at hz4; omega, StOk.st0, HP5.out, HR5.out, HB5.out⟩
  case round =>
    clear HP HB HP3 HB3 HP4 HB4 HP5 HB5 HR5 hz4
    obtain ⟨k, r, s, hk, rfl, rfl, hr0, hs, hp, hrr, hb⟩ := hrel
    have HS := Lib.hid hs
    have HP := Lib.hid hp
    have HR := Lib.hid hrr
    have HB := Lib.hid hb
    have hrp : r ≠ p := fun e => absurd (Blk.ne_ hrr hp (by decide)) (by simp [e])
    clear hs hp hrr hb
    by_cases hlt : k < len1
    · obtain ⟨ad, x0, x1, x2, x3, x4, x5, x6, x7, x8, x9, x10, x11, x12, x13, x14, x15, x16, rfl, _, e0, e1, e2, e3, e4, e5, e6, e7, e8, e9, e10, e11, e12, e13, e14, e15, e16, wx0, wx1, wx2, wx3, wx4, wx5, wx6, wx7, wx8, wx9, wx10, wx11, wx12, wx13, wx14, wx15, wx16⟩ := elem1 (R.out.below HB.out) hlt
      have hx9 := bounds_i64 wx9
      have HW9 := Lib.hid (show -9223372036854775808 ≤ x9 ∧ x9 ≤ 9223372036854775807 by omega)
      clear wx0 wx1 wx2 wx3 wx4 wx5 wx6 wx7 wx8 wx9 wx10 wx11 wx12 wx13 wx14 wx15 wx16 hx9
      have HP2 := Lib.hid (HP.out.alloc (.cells #[.int .i64 x0, .int .i64 x1, .int .i64 x2, .int .i64 x3, .int .i64 x4, .int .i64 x5, .int .i64 x6, .int .u16 x7, .int .u16 x8, .int .i64 x9, .int .i64 x10, .int .i64 x11, .int .i64 x12, .int .i64 x13, .int .i64 x14, .int .i64 x15, .int .i64 x16] 56))
      have HR2 := Lib.hid (HR.out.alloc (.cells #[.int .i64 x0, .int .i64 x1, .int .i64 x2, .int .i64 x3, .int .i64 x4, .int .i64 x5, .int .i64 x6, .int .u16 x7, .int .u16 x8, .int .i64 x9, .int .i64 x10, .int .i64 x11, .int .i64 x12, .int .i64 x13, .int .i64 x14, .int .i64 x15, .int .i64 x16] 56))
      have HX2 := Lib.hid (Blk.new wr 56 #[.int .i64 x0, .int .i64 x1, .int .i64 x2, .int .i64 x3, .int .i64 x4, .int .i64 x5, .int .i64 x6, .int .u16 x7, .int .u16 x8, .int .i64 x9, .int .i64 x10, .int .i64 x11, .int .i64 x12, .int .i64 x13, .int .i64 x14, .int .i64 x15, .int .i64 x16])
      have HB2 := Lib.hid (HB.out.alloc HB.out.size (.cells #[.int .i64 x0, .int .i64 x1, .int .i64 x2, .int .i64 x3, .int .i64 x4, .int .i64 x5, .int .i64 x6, .int .u16 x7, .int .u16 x8, .int .i64 x9, .int .i64 x10, .int .i64 x11, .int .i64 x12, .int .i64 x13, .int .i64 x14, .int .i64 x15, .int .i64 x16] 56))
      have hbx := HB.out.size
      have hbp := HP.out.lt
      have hbr := HR.out.lt
      clear HP HR HB
      by_cases k0 : x0 = 0
      · as_aux_lemma =>
        subst k0
        go_upto_region 18 with fail
        clear e0 e1 e2 e3 e4 e5 e6 e7 e8 e9 e10 e11 e12 e13 e14 e15 e16
        generalize wr.alloc (.cells #[.int .i64 0, .int .i64 x1, .int .i64 x2, .int .i64 x3, .int .i64 x4, .int .i64 x5, .int .i64 x6, .int .u16 x7, .int .u16 x8, .int .i64 x9, .int .i64 x10, .int .i64 x11, .int .i64 x12, .int .i64 x13, .int .i64 x14, .int .i64 x15, .int .i64 x16] 56) = w2 at HP2 HR2 HX2 HB2 ⊢
        generalize wr.heap.size = bx at HX2 hbx hbp hbr ⊢
        have b0 := HX2.out.cell 0
        have b1 := HX2.out.cell 1
        have b2 := HX2.out.cell 2
        have hga := ask_gen a0 s x1 x2 HS.out
        obtain ⟨f0, f1, f2, v, s2, kd, hkd, hs2, hca, hcr⟩ := hga
        have CA := Lib.hid hca
        have CR := Lib.hid hcr
        have HS2 := Lib.hid hs2
        clear hca hcr hs2 HS
        go_wp2_with fail
        refine (CA.out _ _ HP2.out).mono ?_
        rintro e w5 ⟨rfl, hp, hk2⟩
        have HP5 := Lib.hid (hp.alloc (.cells #[.int .i64 f0, .int .i64 f1, .int .i64 f2] 36))
        have HR5 := Lib.hid ((blk_kp HR2.out hk2 (fun h => hrp h)).alloc (.cells #[.int .i64 f0, .int .i64 f1, .int .i64 f2] 36))
        have HX5 := Lib.hid ((blk_kp HX2.out hk2 (fun h => by omega)).alloc (.cells #[.int .i64 f0, .int .i64 f1, .int .i64 f2] 36))
        have HF5 := Lib.hid (Blk.new w5 36 #[.int .i64 f0, .int .i64 f1, .int .i64 f2])
        have HB5 := Lib.hid ((below_kp HB2.out HB2.out.size hk2 (fun k hk => by omega)).alloc (Nat.le_trans HB2.out.size hk2.size) (.cells #[.int .i64 f0, .int .i64 f1, .int .i64 f2] 36))
        have hl5 : r < w5.heap.size := by have := HR2.out.lt; have := hk2.size; omega
        have hl6 : bx < w5.heap.size := by have := HX2.out.lt; have := hk2.size; omega
        have b1 := HX5.out.cell 1
        have b2 := HX5.out.cell 2
        clear hp hk2 HP2 HR2 HX2 HB2 CA
        go_wp2_with fail
        refine (CR.out _ _ HR5.out).mono ?_
        rintro e w6 ⟨rfl, hr, hk3⟩
        have HRT := Lib.hid (hr.alloc (.cells #[.int .i64 kd, .int .i64 f0, .int .i64 f1, .int .i64 0, .int .u16 0, .int .u16 0, .int .i64 0, .int .i64 0, .int .i64 0, .int .i64 f2, .int .i64 0, .int .i64 0, .int .i64 0, .int .i64 0] 41))
        have HPT := Lib.hid ((blk_kp HP5.out hk3 (fun h => hrp h.symm)).alloc (.cells #[.int .i64 kd, .int .i64 f0, .int .i64 f1, .int .i64 0, .int .u16 0, .int .u16 0, .int .i64 0, .int .i64 0, .int .i64 0, .int .i64 f2, .int .i64 0, .int .i64 0, .int .i64 0, .int .i64 0] 41))
        have HF6 := Lib.hid ((blk_kp HF5.out hk3 (fun h => by omega)).alloc (.cells #[.int .i64 kd, .int .i64 f0, .int .i64 f1, .int .i64 0, .int .u16 0, .int .u16 0, .int .i64 0, .int .i64 0, .int .i64 0, .int .i64 f2, .int .i64 0, .int .i64 0, .int .i64 0, .int .i64 0] 41))
        have HBT := Lib.hid ((below_kp HB5.out HB5.out.size hk3 (fun k hk => by omega)).alloc (Nat.le_trans HB5.out.size hk3.size) (.cells #[.int .i64 kd, .int .i64 f0, .int .i64 f1, .int .i64 0, .int .u16 0, .int .u16 0, .int .i64 0, .int .i64 0, .int .i64 0, .int .i64 f2, .int .i64 0, .int .i64 0, .int .i64 0, .int .i64 0] 41))
        have hf := cells3 HF6.out
        obtain ⟨g0, g1, g2, _, _, _⟩ := hf
        clear hr hk3 HR5 HP5 HX5 HF5 HB5 CR b1 b2
        go_upto_region 38 with fail
        clear g0 g1 g2
        obtain ⟨r2, rfl⟩ : ∃ r2, r2 = r := ⟨_, rfl⟩
        have hbx2 := hr0
        refine wp_region_seq [(0, true), (2, true), (3, true), (4, true), (5, true), (1, false), (6, true), (7, true), (8, true), (10, true), (11, true), (12, true), (13, true), (9, false), (14, true), (15, true)] (fun w' => w'.cell? ⟨r2, 3, none⟩ = some (.bool s2.waiting) ∧ w'.cell? ⟨r2, 6, none⟩ = some (.int .i64 s2.rest)) (by kernel_rfl) (by kernel_rfl) ⟨HRT.out.drew.cell 3, HRT.out.drew.cell 6⟩ (fun hHeld => ?_)
        simp only [List.map_cons, List.map_nil, List.getElem?_toArray, List.getElem?_cons_zero, List.getElem?_cons_succ]
        repeat (first | (first | (refine seq_skip (by rfl) ?_; try simp only [Act.put, List.setIfInBounds_toArray, List.set_cons_zero, List.set_cons_succ]) | (refine seq_not (by rfl) (by assumption) ?_; try simp only [Act.put, List.setIfInBounds_toArray, List.set_cons_zero, List.set_cons_succ]) | (refine seq_take (v := ?_) (by rfl) ?_ ?_; rotate_left; (focus ((intro w hSw; (try dsimp only at hSw); go_simp; (try with_reducible rfl)); done)); try simp only [Act.put, List.setIfInBounds_toArray, List.set_cons_zero, List.set_cons_succ])) | (refine seq_do (fun K hK => ?_); go_simp; (first | (go_at_call 20; (with_reducible refine Calls.mono (waits_ok p a0 s2 _ HPT.out.drew) ?_)) | (go_at_call 21; (with_reducible refine Calls.mono (rests_ok p a0 s2 _ HPT.out.drew) ?_))); rintro e w' ⟨rfl, rfl⟩; dsimp only; refine hK.out _ _ (by assumption) (fun _ => ?_); clear hK K))
        refine seq_done ?_
        clear hHeld
        go_wp2
        go_roundw
        case rel => exact ⟨k + 1, r2, s2, hlt, by go_num, rfl, hbx2, HS2.out, HPT.out.drew, HRT.out.drew, below_drew HBT.out⟩
        case measure => simp [intOf]; omega
      by_cases k1 : x0 = 1
      · as_aux_lemma =>
        subst k1
        go_upto_region 18 with fail
        clear e0 e1 e2 e3 e4 e5 e6 e7 e8 e9 e10 e11 e12 e13 e14 e15 e16
        generalize wr.alloc (.cells #[.int .i64 1, .int .i64 x1, .int .i64 x2, .int .i64 x3, .int .i64 x4, .int .i64 x5, .int .i64 x6, .int .u16 x7, .int .u16 x8, .int .i64 x9, .int .i64 x10, .int .i64 x11, .int .i64 x12, .int .i64 x13, .int .i64 x14, .int .i64 x15, .int .i64 x16] 56) = w2 at HP2 HR2 HX2 HB2 ⊢
        generalize wr.heap.size = bx at HX2 hbx hbp hbr ⊢
        have b0 := HX2.out.cell 0
        have b1 := HX2.out.cell 1
        have b2 := HX2.out.cell 2
        have hga := ask_gen a0 s x1 x2 HS.out
        obtain ⟨f0, f1, f2, v, s2, kd, hkd, hs2, hca, hcr⟩ := hga
        have CA := Lib.hid hca
        have CR := Lib.hid hcr
        have HS2 := Lib.hid hs2
        clear hca hcr hs2 HS
        go_wp2_with fail
        refine (CA.out _ _ HP2.out).mono ?_
        rintro e w5 ⟨rfl, hp, hk2⟩
        have HP5 := Lib.hid (hp.alloc (.cells #[.int .i64 f0, .int .i64 f1, .int .i64 f2] 36))
        have HR5 := Lib.hid ((blk_kp HR2.out hk2 (fun h => hrp h)).alloc (.cells #[.int .i64 f0, .int .i64 f1, .int .i64 f2] 36))
        have HX5 := Lib.hid ((blk_kp HX2.out hk2 (fun h => by omega)).alloc (.cells #[.int .i64 f0, .int .i64 f1, .int .i64 f2] 36))
        have HF5 := Lib.hid (Blk.new w5 36 #[.int .i64 f0, .int .i64 f1, .int .i64 f2])
        have HB5 := Lib.hid ((below_kp HB2.out HB2.out.size hk2 (fun k hk => by omega)).alloc (Nat.le_trans HB2.out.size hk2.size) (.cells #[.int .i64 f0, .int .i64 f1, .int .i64 f2] 36))
        have hl5 : r < w5.heap.size := by have := HR2.out.lt; have := hk2.size; omega
        have hl6 : bx < w5.heap.size := by have := HX2.out.lt; have := hk2.size; omega
        have b1 := HX5.out.cell 1
        have b2 := HX5.out.cell 2
        clear hp hk2 HP2 HR2 HX2 HB2 CA
        go_wp2_with fail
        refine (CR.out _ _ HR5.out).mono ?_
        rintro e w6 ⟨rfl, hr, hk3⟩
        have HRT := Lib.hid (hr.alloc (.cells #[.int .i64 kd, .int .i64 f0, .int .i64 f1, .int .i64 0, .int .u16 0, .int .u16 0, .int .i64 0, .int .i64 0, .int .i64 0, .int .i64 f2, .int .i64 0, .int .i64 0, .int .i64 0, .int .i64 0] 41))
        have HPT := Lib.hid ((blk_kp HP5.out hk3 (fun h => hrp h.symm)).alloc (.cells #[.int .i64 kd, .int .i64 f0, .int .i64 f1, .int .i64 0, .int .u16 0, .int .u16 0, .int .i64 0, .int .i64 0, .int .i64 0, .int .i64 f2, .int .i64 0, .int .i64 0, .int .i64 0, .int .i64 0] 41))
        have HF6 := Lib.hid ((blk_kp HF5.out hk3 (fun h => by omega)).alloc (.cells #[.int .i64 kd, .int .i64 f0, .int .i64 f1, .int .i64 0, .int .u16 0, .int .u16 0, .int .i64 0, .int .i64 0, .int .i64 0, .int .i64 f2, .int .i64 0, .int .i64 0, .int .i64 0, .int .i64 0] 41))
        have HBT := Lib.hid ((below_kp HB5.out HB5.out.size hk3 (fun k hk => by omega)).alloc (Nat.le_trans HB5.out.size hk3.size) (.cells #[.int .i64 kd, .int .i64 f0, .int .i64 f1, .int .i64 0, .int .u16 0, .int .u16 0, .int .i64 0, .int .i64 0, .int .i64 0, .int .i64 f2, .int .i64 0, .int .i64 0, .int .i64 0, .int .i64 0] 41))
        have hf := cells3 HF6.out
        obtain ⟨g0, g1, g2, _, _, _⟩ := hf
        clear hr hk3 HR5 HP5 HX5 HF5 HB5 CR b1 b2
        go_upto_region 38 with fail
        clear g0 g1 g2
        obtain ⟨r2, rfl⟩ : ∃ r2, r2 = r := ⟨_, rfl⟩
        have hbx2 := hr0
        refine wp_region_seq [(0, true), (2, true), (3, true), (4, true), (5, true), (1, false), (6, true), (7, true), (8, true), (10, true), (11, true), (12, true), (13, true), (9, false), (14, true), (15, true)] (fun w' => w'.cell? ⟨r2, 3, none⟩ = some (.bool s2.waiting) ∧ w'.cell? ⟨r2, 6, none⟩ = some (.int .i64 s2.rest)) (by kernel_rfl) (by kernel_rfl) ⟨HRT.out.drew.cell 3, HRT.out.drew.cell 6⟩ (fun hHeld => ?_)
        simp only [List.map_cons, List.map_nil, List.getElem?_toArray, List.getElem?_cons_zero, List.getElem?_cons_succ]
        repeat (first | (first | (refine seq_skip (by rfl) ?_; try simp only [Act.put, List.setIfInBounds_toArray, List.set_cons_zero, List.set_cons_succ]) | (refine seq_not (by rfl) (by assumption) ?_; try simp only [Act.put, List.setIfInBounds_toArray, List.set_cons_zero, List.set_cons_succ]) | (refine seq_take (v := ?_) (by rfl) ?_ ?_; rotate_left; (focus ((intro w hSw; (try dsimp only at hSw); go_simp; (try with_reducible rfl)); done)); try simp only [Act.put, List.setIfInBounds_toArray, List.set_cons_zero, List.set_cons_succ])) | (refine seq_do (fun K hK => ?_); go_simp; (first | (go_at_call 20; (with_reducible refine Calls.mono (waits_ok p a0 s2 _ HPT.out.drew) ?_)) | (go_at_call 21; (with_reducible refine Calls.mono (rests_ok p a0 s2 _ HPT.out.drew) ?_))); rintro e w' ⟨rfl, rfl⟩; dsimp only; refine hK.out _ _ (by assumption) (fun _ => ?_); clear hK K))
        refine seq_done ?_
        clear hHeld
        go_wp2
        go_roundw
        case rel => exact ⟨k + 1, r2, s2, hlt, by go_num, rfl, hbx2, HS2.out, HPT.out.drew, HRT.out.drew, below_drew HBT.out⟩
        case measure => simp [intOf]; omega
      by_cases k2 : x0 = 2
      · as_aux_lemma =>
        subst k2
        go_upto_region 18 with fail
        clear e0 e1 e2 e3 e4 e5 e6 e7 e8 e9 e10 e11 e12 e13 e14 e15 e16
        generalize wr.alloc (.cells #[.int .i64 2, .int .i64 x1, .int .i64 x2, .int .i64 x3, .int .i64 x4, .int .i64 x5, .int .i64 x6, .int .u16 x7, .int .u16 x8, .int .i64 x9, .int .i64 x10, .int .i64 x11, .int .i64 x12, .int .i64 x13, .int .i64 x14, .int .i64 x15, .int .i64 x16] 56) = w2 at HP2 HR2 HX2 HB2 ⊢
        generalize wr.heap.size = bx at HX2 hbx hbp hbr ⊢
        have b0 := HX2.out.cell 0
        have b1 := HX2.out.cell 1
        have b2 := HX2.out.cell 2
        have hx6 : -9223372036854775808 ≤ x9 ∧ x9 ≤ 9223372036854775807 := HW9.out
        have hgh := hear_gen a0 s x3 x4 x5 x6 x7 x8 x9 x10 x11 x12 x13 x14 x15 x16 x2 HS.out hx6.1 hx6.2
        obtain ⟨v0, v1, v2, v, s2, hs2, hca, hcr⟩ := hgh
        have CA := Lib.hid hca
        have CR := Lib.hid hcr
        have CY := Lib.hid (fun w => reply_ok x3 x4 x5 x6 x7 x8 x9 x10 x11 x12 x13 x14 x15 x16 w)
        have HS2 := Lib.hid hs2
        clear hca hcr hs2 HS hx6
        go_upto_region 27 with fail
        go_cut [18, 19] (fun e18 e19 wx => ∃ b, e18 = .pointer (some ⟨b, 0, none⟩) ∧ e19 = .bool v ∧ Blk wx b 43 #[.int .i64 v0, .int .i64 v1, .int .i64 v2] ∧ Pd wx p a0 s2 ∧ Rd wx r a0 s ∧ Blk wx bx 56 #[.int .i64 2, .int .i64 x1, .int .i64 x2, .int .i64 x3, .int .i64 x4, .int .i64 x5, .int .i64 x6, .int .u16 x7, .int .u16 x8, .int .i64 x9, .int .i64 x10, .int .i64 x11, .int .i64 x12, .int .i64 x13, .int .i64 x14, .int .i64 x15, .int .i64 x16] ∧ Below W.heap.size W wx)
        case first => as_aux_lemma =>
          have HPd := Lib.hid HP2.out.drew
          have HRd := Lib.hid HR2.out.drew
          have HXd := Lib.hid HX2.out.drew
          have HBd := Lib.hid (below_drew HB2.out)
          have hrl := HR2.out.lt
          have hbl := HX2.out.lt
          have hpl := HP2.out.lt
          clear HP2 HR2 HX2 HB2
          refine wp_region_tr (.st true 0 (.st true 1 (.st true 2 (.st true 4 (.st true 5 (.two 3 10 (.two 6 10 (.st true 7 (.st true 8 (.st true 9 (.st false 10 (.st false 11 (.st true 12 .done)))))) (.st false 6 (.st true 7 (.st true 8 (.st true 9 (.st false 11 (.st true 12 .done))))))) (.st false 3 (.st false 6 (.st true 7 (.st true 8 (.st true 9 (.st false 11 (.st true 12 .done))))))))))))) (fun w' => w'.cell? ⟨bx, 2, none⟩ = some (.int .i64 x2) ∧ w'.cell? ⟨bx, 3, none⟩ = some (.int .i64 x3) ∧ w'.cell? ⟨bx, 4, none⟩ = some (.int .i64 x4) ∧ w'.cell? ⟨bx, 5, none⟩ = some (.int .i64 x5) ∧ w'.cell? ⟨bx, 6, none⟩ = some (.int .i64 x6) ∧ w'.cell? ⟨bx, 7, none⟩ = some (.int .u16 x7) ∧ w'.cell? ⟨bx, 8, none⟩ = some (.int .u16 x8) ∧ w'.cell? ⟨bx, 9, none⟩ = some (.int .i64 x9) ∧ w'.cell? ⟨bx, 10, none⟩ = some (.int .i64 x10) ∧ w'.cell? ⟨bx, 11, none⟩ = some (.int .i64 x11) ∧ w'.cell? ⟨bx, 12, none⟩ = some (.int .i64 x12) ∧ w'.cell? ⟨bx, 13, none⟩ = some (.int .i64 x13) ∧ w'.cell? ⟨bx, 14, none⟩ = some (.int .i64 x14) ∧ w'.cell? ⟨bx, 15, none⟩ = some (.int .i64 x15) ∧ w'.cell? ⟨bx, 16, none⟩ = some (.int .i64 x16)) (by kernel_rfl) (by kernel_rfl) (boxc HXd.out) (fun hHeld => ?_)
          simp only [Tr.res, List.getElem?_toArray, List.getElem?_cons_zero, List.getElem?_cons_succ]
          repeat (first | (refine tr_skip (by rfl) ?_; try simp only [Act.put, List.setIfInBounds_toArray, List.set_cons_zero, List.set_cons_succ]) | (refine tr_not (by rfl) (by assumption) ?_; try simp only [Act.put, List.setIfInBounds_toArray, List.set_cons_zero, List.set_cons_succ]) | (refine tr_take (v := ?_) (by rfl) ?_ ?_; rotate_left; (focus ((intro w hSw; (try dsimp only at hSw); go_simp; (try with_reducible rfl)); done)); try simp only [Act.put, List.setIfInBounds_toArray, List.set_cons_zero, List.set_cons_succ]))
          refine tr_two ?_ ?_
          · as_aux_lemma =>
            refine tr_do (fun K hK => ?_)
            go_simp
            go_at_call 18
            (with_reducible refine Calls.mono (CY.out _) ?_)
            rintro e w5 ⟨rfl, hb⟩
            have HP5 := Lib.hid (HPd.out.keeps hb)
            have HR5 := Lib.hid (HRd.out.keeps hb)
            have HX5 := Lib.hid (HXd.out.keeps hb)
            have HB5 := Lib.hid (HBd.out.trans (hb.mono HBd.out.size))
            have hs5 := hb.size
            rw [size_drew] at hs5
            dsimp only
            refine hK.out _ _ (boxc HX5.out) (fun hHeld => ?_)
            clear hK K hb
            refine tr_two ?_ ?_
            · as_aux_lemma =>
              refine tr_do (fun K hK => ?_)
              go_simp
              go_at_call 17
              (with_reducible refine Calls.mono (CA.out _ _ HP5.out) ?_)
              rintro e w6 ⟨rfl, hp, hk2⟩
              have HP6 := Lib.hid hp
              have HR6 := Lib.hid (blk_kp HR5.out hk2 (fun h => hrp h))
              have HX6 := Lib.hid (blk_kp HX5.out hk2 (fun h => by omega))
              have HB6 := Lib.hid (below_kp HB5.out HB5.out.size hk2 (fun k hk => by omega))
              dsimp only
              refine hK.out _ _ (boxc HX6.out) (fun hHeld => ?_)
              clear hK K hp hk2
              repeat (first | (refine tr_skip (by rfl) ?_; try simp only [Act.put, List.setIfInBounds_toArray, List.set_cons_zero, List.set_cons_succ]) | (refine tr_not (by rfl) (by assumption) ?_; try simp only [Act.put, List.setIfInBounds_toArray, List.set_cons_zero, List.set_cons_succ]) | (refine tr_take (v := ?_) (by rfl) ?_ ?_; rotate_left; (focus ((intro w hSw; (try dsimp only at hSw); go_simp; (try with_reducible rfl)); done)); try simp only [Act.put, List.setIfInBounds_toArray, List.set_cons_zero, List.set_cons_succ]))
              refine tr_do (fun K hK => ?_)
              go_simp
              refine hK.out _ _ (boxc (HX6.out.alloc _)) (fun hHeld => ?_)
              clear hK K
              refine tr_do (fun K hK => ?_)
              go_simp
              refine hK.out _ _ (boxc (HX6.out.alloc _)) (fun hHeld => ?_)
              clear hK K
              repeat (first | (refine tr_skip (by rfl) ?_; try simp only [Act.put, List.setIfInBounds_toArray, List.set_cons_zero, List.set_cons_succ]) | (refine tr_not (by rfl) (by assumption) ?_; try simp only [Act.put, List.setIfInBounds_toArray, List.set_cons_zero, List.set_cons_succ]) | (refine tr_take (v := ?_) (by rfl) ?_ ?_; rotate_left; (focus ((intro w hSw; (try dsimp only at hSw); go_simp; (try with_reducible rfl)); done)); try simp only [Act.put, List.setIfInBounds_toArray, List.set_cons_zero, List.set_cons_succ]))
              refine tr_done ?_
              clear hHeld
              go_wp2
              go_meet
              exact ⟨_, rfl, rfl, Blk.new _ _ _, HP6.out.alloc _, HR6.out.alloc _, HX6.out.alloc _, HB6.out.alloc HB6.out.size _⟩
            · as_aux_lemma =>
              refine tr_do (fun K hK => ?_)
              go_simp
              refine hK.out _ _ (boxc (HX5.out.alloc _)) (fun hHeld => ?_)
              clear hK K
              refine tr_do (fun K hK => ?_)
              go_simp
              go_at_call 17
              (with_reducible refine Calls.mono (CA.out _ _ (HP5.out.alloc _)) ?_)
              rintro e w6 ⟨rfl, hp, hk2⟩
              have HPn := Lib.hid hp
              have HRn := Lib.hid (blk_kp (HR5.out.alloc _) hk2 (fun h => hrp h))
              have HXn := Lib.hid (blk_kp (HX5.out.alloc _) hk2 (fun h => by omega))
              have HNn := Lib.hid (blk_kp (Blk.new w5 43 #[.int .i64 0, .int .i64 0, .int .i64 0]) hk2 (fun h => by omega))
              have HBn := Lib.hid (below_kp (HB5.out.alloc HB5.out.size _) (by have := HB5.out.size; simp; omega) hk2 (fun k hk => by omega))
              have hs6 := hk2.size
              dsimp only
              refine hK.out _ _ (boxc HXn.out) (fun hHeld => ?_)
              clear hK K hp hk2
              repeat (first | (refine tr_skip (by rfl) ?_; try simp only [Act.put, List.setIfInBounds_toArray, List.set_cons_zero, List.set_cons_succ]) | (refine tr_not (by rfl) (by assumption) ?_; try simp only [Act.put, List.setIfInBounds_toArray, List.set_cons_zero, List.set_cons_succ]) | (refine tr_take (v := ?_) (by rfl) ?_ ?_; rotate_left; (focus ((intro w hSw; (try dsimp only at hSw); go_simp; (try with_reducible rfl)); done)); try simp only [Act.put, List.setIfInBounds_toArray, List.set_cons_zero, List.set_cons_succ]))
              have hy := cells3 HNn.out
              obtain ⟨y0, y1, y2, y3, y4, y5⟩ := hy
              refine tr_do (fun K hK => ?_)
              go_simp
              have hQ1 : Pd (((w6.setCell ⟨w5.heap.size, 0, none⟩ (.int .i64 v0)).setCell ⟨w5.heap.size, 1, none⟩ (.int .i64 v1)).setCell ⟨w5.heap.size, 2, none⟩ (.int .i64 v2)) p a0 s2 := by
                have k := HPn.out
                ((repeat (first | (with_reducible assumption) | (with_reducible apply Blk.drew) | (with_reducible apply set_at2) | ((with_reducible apply set_far); (focus omega)) | (with_reducible apply Blk.alloc))); all_goals rfl)
              have hQ2 : Rd (((w6.setCell ⟨w5.heap.size, 0, none⟩ (.int .i64 v0)).setCell ⟨w5.heap.size, 1, none⟩ (.int .i64 v1)).setCell ⟨w5.heap.size, 2, none⟩ (.int .i64 v2)) r a0 s := by
                have k := HRn.out
                ((repeat (first | (with_reducible assumption) | (with_reducible apply Blk.drew) | (with_reducible apply set_at2) | ((with_reducible apply set_far); (focus omega)) | (with_reducible apply Blk.alloc))); all_goals rfl)
              have hQ3 : Blk (((w6.setCell ⟨w5.heap.size, 0, none⟩ (.int .i64 v0)).setCell ⟨w5.heap.size, 1, none⟩ (.int .i64 v1)).setCell ⟨w5.heap.size, 2, none⟩ (.int .i64 v2)) bx 56 #[.int .i64 2, .int .i64 x1, .int .i64 x2, .int .i64 x3, .int .i64 x4, .int .i64 x5, .int .i64 x6, .int .u16 x7, .int .u16 x8, .int .i64 x9, .int .i64 x10, .int .i64 x11, .int .i64 x12, .int .i64 x13, .int .i64 x14, .int .i64 x15, .int .i64 x16] := by
                have k := HXn.out
                ((repeat (first | (with_reducible assumption) | (with_reducible apply Blk.drew) | (with_reducible apply set_at2) | ((with_reducible apply set_far); (focus omega)) | (with_reducible apply Blk.alloc))); all_goals rfl)
              have hQ4 : Blk (((w6.setCell ⟨w5.heap.size, 0, none⟩ (.int .i64 v0)).setCell ⟨w5.heap.size, 1, none⟩ (.int .i64 v1)).setCell ⟨w5.heap.size, 2, none⟩ (.int .i64 v2)) (w5.heap.size) 43 #[.int .i64 v0, .int .i64 v1, .int .i64 v2] := by
                have k := HNn.out
                ((repeat (first | (with_reducible assumption) | (with_reducible apply Blk.drew) | (with_reducible apply set_at2) | ((with_reducible apply set_far); (focus omega)) | (with_reducible apply Blk.alloc))); all_goals rfl)
              have hQ5 : Below W.heap.size W (((w6.setCell ⟨w5.heap.size, 0, none⟩ (.int .i64 v0)).setCell ⟨w5.heap.size, 1, none⟩ (.int .i64 v1)).setCell ⟨w5.heap.size, 2, none⟩ (.int .i64 v2)) := by
                have k := HBn.out
                (repeat (first | (with_reducible assumption) | (with_reducible apply below_drew) | ((with_reducible apply below_set); (focus omega)) | ((with_reducible apply below_at); (focus ((try simp only [size_set, size_drew, World.size_alloc]); omega)))))
              have HQ1 := Lib.hid hQ1
              have HQ2 := Lib.hid hQ2
              have HQ3 := Lib.hid hQ3
              have HQ4 := Lib.hid hQ4
              have HQ5 := Lib.hid hQ5
              clear hQ1 hQ2 hQ3 hQ4 hQ5
              refine hK.out _ _ (boxc HQ3.out) (fun hHeld => ?_)
              clear hK K
              repeat (first | (refine tr_skip (by rfl) ?_; try simp only [Act.put, List.setIfInBounds_toArray, List.set_cons_zero, List.set_cons_succ]) | (refine tr_not (by rfl) (by assumption) ?_; try simp only [Act.put, List.setIfInBounds_toArray, List.set_cons_zero, List.set_cons_succ]) | (refine tr_take (v := ?_) (by rfl) ?_ ?_; rotate_left; (focus ((intro w hSw; (try dsimp only at hSw); go_simp; (try with_reducible rfl)); done)); try simp only [Act.put, List.setIfInBounds_toArray, List.set_cons_zero, List.set_cons_succ]))
              refine tr_done ?_
              clear hHeld
              go_wp2
              go_meet
              exact ⟨_, rfl, rfl, HQ4.out, HQ1.out, HQ2.out, HQ3.out, HQ5.out⟩
          · as_aux_lemma =>
            refine tr_do (fun K hK => ?_)
            go_simp
            refine hK.out _ _ (boxc (HXd.out.alloc _)) (fun hHeld => ?_)
            clear hK K
            refine tr_do (fun K hK => ?_)
            go_simp
            go_at_call 18
            (with_reducible refine Calls.mono (CY.out _) ?_)
            rintro e w5 ⟨rfl, hb⟩
            have HP5 := Lib.hid ((HPd.out.alloc _).keeps hb)
            have HR5 := Lib.hid ((HRd.out.alloc _).keeps hb)
            have HX5 := Lib.hid ((HXd.out.alloc _).keeps hb)
            have HN5 := Lib.hid ((Blk.new w2 43 #[.int .i64 0, .int .i64 0, .int .i64 0]).drew.keeps hb)
            have HB5 := Lib.hid ((HBd.out.alloc HBd.out.size _).trans (hb.mono (HBd.out.alloc HBd.out.size _).size))
            dsimp only
            refine hK.out _ _ (boxc HX5.out) (fun hHeld => ?_)
            clear hK K hb
            refine tr_do (fun K hK => ?_)
            go_simp
            go_at_call 17
            (with_reducible refine Calls.mono (CA.out _ _ HP5.out) ?_)
            rintro e w6 ⟨rfl, hp, hk2⟩
            have HPn := Lib.hid hp
            have HRn := Lib.hid (blk_kp HR5.out hk2 (fun h => hrp h))
            have HXn := Lib.hid (blk_kp HX5.out hk2 (fun h => by omega))
            have HNn := Lib.hid (blk_kp HN5.out hk2 (fun h => by omega))
            have HBn := Lib.hid (below_kp HB5.out HB5.out.size hk2 (fun k hk => by omega))
            dsimp only
            refine hK.out _ _ (boxc HXn.out) (fun hHeld => ?_)
            clear hK K hp hk2
            repeat (first | (refine tr_skip (by rfl) ?_; try simp only [Act.put, List.setIfInBounds_toArray, List.set_cons_zero, List.set_cons_succ]) | (refine tr_not (by rfl) (by assumption) ?_; try simp only [Act.put, List.setIfInBounds_toArray, List.set_cons_zero, List.set_cons_succ]) | (refine tr_take (v := ?_) (by rfl) ?_ ?_; rotate_left; (focus ((intro w hSw; (try dsimp only at hSw); go_simp; (try with_reducible rfl)); done)); try simp only [Act.put, List.setIfInBounds_toArray, List.set_cons_zero, List.set_cons_succ]))
            have hy := cells3 HNn.out
            obtain ⟨y0, y1, y2, y3, y4, y5⟩ := hy
            refine tr_do (fun K hK => ?_)
            go_simp
            have hQ1 : Pd (((w6.setCell ⟨w2.heap.size, 0, none⟩ (.int .i64 v0)).setCell ⟨w2.heap.size, 1, none⟩ (.int .i64 v1)).setCell ⟨w2.heap.size, 2, none⟩ (.int .i64 v2)) p a0 s2 := by
              have k := HPn.out
              ((repeat (first | (with_reducible assumption) | (with_reducible apply Blk.drew) | (with_reducible apply set_at2) | ((with_reducible apply set_far); (focus omega)) | (with_reducible apply Blk.alloc))); all_goals rfl)
            have hQ2 : Rd (((w6.setCell ⟨w2.heap.size, 0, none⟩ (.int .i64 v0)).setCell ⟨w2.heap.size, 1, none⟩ (.int .i64 v1)).setCell ⟨w2.heap.size, 2, none⟩ (.int .i64 v2)) r a0 s := by
              have k := HRn.out
              ((repeat (first | (with_reducible assumption) | (with_reducible apply Blk.drew) | (with_reducible apply set_at2) | ((with_reducible apply set_far); (focus omega)) | (with_reducible apply Blk.alloc))); all_goals rfl)
            have hQ3 : Blk (((w6.setCell ⟨w2.heap.size, 0, none⟩ (.int .i64 v0)).setCell ⟨w2.heap.size, 1, none⟩ (.int .i64 v1)).setCell ⟨w2.heap.size, 2, none⟩ (.int .i64 v2)) bx 56 #[.int .i64 2, .int .i64 x1, .int .i64 x2, .int .i64 x3, .int .i64 x4, .int .i64 x5, .int .i64 x6, .int .u16 x7, .int .u16 x8, .int .i64 x9, .int .i64 x10, .int .i64 x11, .int .i64 x12, .int .i64 x13, .int .i64 x14, .int .i64 x15, .int .i64 x16] := by
              have k := HXn.out
              ((repeat (first | (with_reducible assumption) | (with_reducible apply Blk.drew) | (with_reducible apply set_at2) | ((with_reducible apply set_far); (focus omega)) | (with_reducible apply Blk.alloc))); all_goals rfl)
            have hQ4 : Blk (((w6.setCell ⟨w2.heap.size, 0, none⟩ (.int .i64 v0)).setCell ⟨w2.heap.size, 1, none⟩ (.int .i64 v1)).setCell ⟨w2.heap.size, 2, none⟩ (.int .i64 v2)) (w2.heap.size) 43 #[.int .i64 v0, .int .i64 v1, .int .i64 v2] := by
              have k := HNn.out
              ((repeat (first | (with_reducible assumption) | (with_reducible apply Blk.drew) | (with_reducible apply set_at2) | ((with_reducible apply set_far); (focus omega)) | (with_reducible apply Blk.alloc))); all_goals rfl)
            have hQ5 : Below W.heap.size W (((w6.setCell ⟨w2.heap.size, 0, none⟩ (.int .i64 v0)).setCell ⟨w2.heap.size, 1, none⟩ (.int .i64 v1)).setCell ⟨w2.heap.size, 2, none⟩ (.int .i64 v2)) := by
              have k := HBn.out
              (repeat (first | (with_reducible assumption) | (with_reducible apply below_drew) | ((with_reducible apply below_set); (focus omega)) | ((with_reducible apply below_at); (focus ((try simp only [size_set, size_drew, World.size_alloc]); omega)))))
            have HQ1 := Lib.hid hQ1
            have HQ2 := Lib.hid hQ2
            have HQ3 := Lib.hid hQ3
            have HQ4 := Lib.hid hQ4
            have HQ5 := Lib.hid hQ5
            clear hQ1 hQ2 hQ3 hQ4 hQ5
            refine hK.out _ _ (boxc HQ3.out) (fun hHeld => ?_)
            clear hK K
            repeat (first | (refine tr_skip (by rfl) ?_; try simp only [Act.put, List.setIfInBounds_toArray, List.set_cons_zero, List.set_cons_succ]) | (refine tr_not (by rfl) (by assumption) ?_; try simp only [Act.put, List.setIfInBounds_toArray, List.set_cons_zero, List.set_cons_succ]) | (refine tr_take (v := ?_) (by rfl) ?_ ?_; rotate_left; (focus ((intro w hSw; (try dsimp only at hSw); go_simp; (try with_reducible rfl)); done)); try simp only [Act.put, List.setIfInBounds_toArray, List.set_cons_zero, List.set_cons_succ]))
            refine tr_done ?_
            clear hHeld
            go_wp2
            go_meet
            exact ⟨_, rfl, rfl, HQ4.out, HQ1.out, HQ2.out, HQ3.out, HQ5.out⟩
        case rest => as_aux_lemma =>
          obtain ⟨b, rfl, rfl, hxb, hp, hr, hx, hB⟩ := hcut
          have HN5 := Lib.hid hxb
          have HP5 := Lib.hid hp
          have HR5 := Lib.hid hr
          have HX5 := Lib.hid hx
          have HB5 := Lib.hid hB
          have hbb : b < wc.heap.size := hxb.lt
          have hbr : ¬ b = r := fun h => by have := Blk.ne_ hxb hr (by decide); exact this h
          have hcb := boxc hx
          obtain ⟨d2, d3, d4, d5, d6, d7, d8, d9, d10, d11, d12, d13, d14, d15, d16⟩ := hcb
          clear hxb hp hr hx hB HP2 HR2 HX2 HB2
          go_wp2_with fail
          refine (CR.out _ _ HR5.out).mono ?_
          rintro e w6 ⟨rfl, hr, hk3⟩
          have HRT := Lib.hid (hr.alloc (.cells #[.int .i64 v0, .int .i64 v1, .int .i64 v2] 58))
          have HPT := Lib.hid ((blk_kp HP5.out hk3 (fun h => hrp h.symm)).alloc (.cells #[.int .i64 v0, .int .i64 v1, .int .i64 v2] 58))
          have HF6 := Lib.hid ((blk_kp HN5.out hk3 (fun h => hbr h)).alloc (.cells #[.int .i64 v0, .int .i64 v1, .int .i64 v2] 58))
          have HBT := Lib.hid ((below_kp HB5.out HB5.out.size hk3 (fun k hk => by omega)).alloc (Nat.le_trans HB5.out.size hk3.size) (.cells #[.int .i64 v0, .int .i64 v1, .int .i64 v2] 58))
          have hf := cells3 HF6.out
          obtain ⟨g0, g1, g2, _, _, _⟩ := hf
          clear hr hk3 HR5 HP5 HX5 HN5 HB5 CR d2 d3 d4 d5 d6 d7 d8 d9 d10 d11 d12 d13 d14 d15 d16
          go_upto_region 38 with fail
          clear g0 g1 g2
          obtain ⟨r2, rfl⟩ : ∃ r2, r2 = r := ⟨_, rfl⟩
          have hbx2 := hr0
          refine wp_region_seq [(0, true), (2, true), (3, true), (4, true), (5, true), (1, false), (6, true), (7, true), (8, true), (10, true), (11, true), (12, true), (13, true), (9, false), (14, true), (15, true)] (fun w' => w'.cell? ⟨r2, 3, none⟩ = some (.bool s2.waiting) ∧ w'.cell? ⟨r2, 6, none⟩ = some (.int .i64 s2.rest)) (by kernel_rfl) (by kernel_rfl) ⟨HRT.out.drew.cell 3, HRT.out.drew.cell 6⟩ (fun hHeld => ?_)
          simp only [List.map_cons, List.map_nil, List.getElem?_toArray, List.getElem?_cons_zero, List.getElem?_cons_succ]
          repeat (first | (first | (refine seq_skip (by rfl) ?_; try simp only [Act.put, List.setIfInBounds_toArray, List.set_cons_zero, List.set_cons_succ]) | (refine seq_not (by rfl) (by assumption) ?_; try simp only [Act.put, List.setIfInBounds_toArray, List.set_cons_zero, List.set_cons_succ]) | (refine seq_take (v := ?_) (by rfl) ?_ ?_; rotate_left; (focus ((intro w hSw; (try dsimp only at hSw); go_simp; (try with_reducible rfl)); done)); try simp only [Act.put, List.setIfInBounds_toArray, List.set_cons_zero, List.set_cons_succ])) | (refine seq_do (fun K hK => ?_); go_simp; (first | (go_at_call 20; (with_reducible refine Calls.mono (waits_ok p a0 s2 _ HPT.out.drew) ?_)) | (go_at_call 21; (with_reducible refine Calls.mono (rests_ok p a0 s2 _ HPT.out.drew) ?_))); rintro e w' ⟨rfl, rfl⟩; dsimp only; refine hK.out _ _ (by assumption) (fun _ => ?_); clear hK K))
          refine seq_done ?_
          clear hHeld
          go_wp2
          go_roundw
          case rel => exact ⟨k + 1, r2, s2, hlt, by go_num, rfl, hbx2, HS2.out, HPT.out.drew, HRT.out.drew, below_drew HBT.out⟩
          case measure => simp [intOf]; omega
      by_cases k3 : x0 = 3
      · as_aux_lemma =>
        subst k3
        go_upto_region 18 with fail
        clear e0 e1 e2 e3 e4 e5 e6 e7 e8 e9 e10 e11 e12 e13 e14 e15 e16
        generalize wr.alloc (.cells #[.int .i64 3, .int .i64 x1, .int .i64 x2, .int .i64 x3, .int .i64 x4, .int .i64 x5, .int .i64 x6, .int .u16 x7, .int .u16 x8, .int .i64 x9, .int .i64 x10, .int .i64 x11, .int .i64 x12, .int .i64 x13, .int .i64 x14, .int .i64 x15, .int .i64 x16] 56) = w2 at HP2 HR2 HX2 HB2 ⊢
        generalize wr.heap.size = bx at HX2 hbx hbp hbr ⊢
        have b0 := HX2.out.cell 0
        have b1 := HX2.out.cell 1
        have b2 := HX2.out.cell 2
        have hx6 : -9223372036854775808 ≤ x9 ∧ x9 ≤ 9223372036854775807 := HW9.out
        have hgh := hear_gen a0 s x3 x4 x5 x6 x7 x8 x9 x10 x11 x12 x13 x14 x15 x16 x2 HS.out hx6.1 hx6.2
        obtain ⟨v0, v1, v2, v, s2, hs2, hca, hcr⟩ := hgh
        have CA := Lib.hid hca
        have CR := Lib.hid hcr
        have CY := Lib.hid (fun w => reply_ok x3 x4 x5 x6 x7 x8 x9 x10 x11 x12 x13 x14 x15 x16 w)
        have HS2 := Lib.hid hs2
        clear hca hcr hs2 HS hx6
        go_upto_region 27 with fail
        go_cut [18, 19] (fun e18 e19 wx => ∃ b, e18 = .pointer (some ⟨b, 0, none⟩) ∧ e19 = .bool v ∧ Blk wx b 43 #[.int .i64 v0, .int .i64 v1, .int .i64 v2] ∧ Pd wx p a0 s2 ∧ Rd wx r a0 s ∧ Blk wx bx 56 #[.int .i64 3, .int .i64 x1, .int .i64 x2, .int .i64 x3, .int .i64 x4, .int .i64 x5, .int .i64 x6, .int .u16 x7, .int .u16 x8, .int .i64 x9, .int .i64 x10, .int .i64 x11, .int .i64 x12, .int .i64 x13, .int .i64 x14, .int .i64 x15, .int .i64 x16] ∧ Below W.heap.size W wx)
        case first => as_aux_lemma =>
          have HPd := Lib.hid HP2.out.drew
          have HRd := Lib.hid HR2.out.drew
          have HXd := Lib.hid HX2.out.drew
          have HBd := Lib.hid (below_drew HB2.out)
          have hrl := HR2.out.lt
          have hbl := HX2.out.lt
          have hpl := HP2.out.lt
          clear HP2 HR2 HX2 HB2
          refine wp_region_tr (.st true 0 (.st true 1 (.st true 2 (.st true 4 (.st true 5 (.two 3 10 (.two 6 10 (.st true 7 (.st true 8 (.st true 9 (.st false 10 (.st false 11 (.st true 12 .done)))))) (.st false 6 (.st true 7 (.st true 8 (.st true 9 (.st false 11 (.st true 12 .done))))))) (.st false 3 (.st false 6 (.st true 7 (.st true 8 (.st true 9 (.st false 11 (.st true 12 .done))))))))))))) (fun w' => w'.cell? ⟨bx, 2, none⟩ = some (.int .i64 x2) ∧ w'.cell? ⟨bx, 3, none⟩ = some (.int .i64 x3) ∧ w'.cell? ⟨bx, 4, none⟩ = some (.int .i64 x4) ∧ w'.cell? ⟨bx, 5, none⟩ = some (.int .i64 x5) ∧ w'.cell? ⟨bx, 6, none⟩ = some (.int .i64 x6) ∧ w'.cell? ⟨bx, 7, none⟩ = some (.int .u16 x7) ∧ w'.cell? ⟨bx, 8, none⟩ = some (.int .u16 x8) ∧ w'.cell? ⟨bx, 9, none⟩ = some (.int .i64 x9) ∧ w'.cell? ⟨bx, 10, none⟩ = some (.int .i64 x10) ∧ w'.cell? ⟨bx, 11, none⟩ = some (.int .i64 x11) ∧ w'.cell? ⟨bx, 12, none⟩ = some (.int .i64 x12) ∧ w'.cell? ⟨bx, 13, none⟩ = some (.int .i64 x13) ∧ w'.cell? ⟨bx, 14, none⟩ = some (.int .i64 x14) ∧ w'.cell? ⟨bx, 15, none⟩ = some (.int .i64 x15) ∧ w'.cell? ⟨bx, 16, none⟩ = some (.int .i64 x16)) (by kernel_rfl) (by kernel_rfl) (boxc HXd.out) (fun hHeld => ?_)
          simp only [Tr.res, List.getElem?_toArray, List.getElem?_cons_zero, List.getElem?_cons_succ]
          repeat (first | (refine tr_skip (by rfl) ?_; try simp only [Act.put, List.setIfInBounds_toArray, List.set_cons_zero, List.set_cons_succ]) | (refine tr_not (by rfl) (by assumption) ?_; try simp only [Act.put, List.setIfInBounds_toArray, List.set_cons_zero, List.set_cons_succ]) | (refine tr_take (v := ?_) (by rfl) ?_ ?_; rotate_left; (focus ((intro w hSw; (try dsimp only at hSw); go_simp; (try with_reducible rfl)); done)); try simp only [Act.put, List.setIfInBounds_toArray, List.set_cons_zero, List.set_cons_succ]))
          refine tr_two ?_ ?_
          · as_aux_lemma =>
            refine tr_do (fun K hK => ?_)
            go_simp
            go_at_call 18
            (with_reducible refine Calls.mono (CY.out _) ?_)
            rintro e w5 ⟨rfl, hb⟩
            have HP5 := Lib.hid (HPd.out.keeps hb)
            have HR5 := Lib.hid (HRd.out.keeps hb)
            have HX5 := Lib.hid (HXd.out.keeps hb)
            have HB5 := Lib.hid (HBd.out.trans (hb.mono HBd.out.size))
            have hs5 := hb.size
            rw [size_drew] at hs5
            dsimp only
            refine hK.out _ _ (boxc HX5.out) (fun hHeld => ?_)
            clear hK K hb
            refine tr_two ?_ ?_
            · as_aux_lemma =>
              refine tr_do (fun K hK => ?_)
              go_simp
              go_at_call 17
              (with_reducible refine Calls.mono (CA.out _ _ HP5.out) ?_)
              rintro e w6 ⟨rfl, hp, hk2⟩
              have HP6 := Lib.hid hp
              have HR6 := Lib.hid (blk_kp HR5.out hk2 (fun h => hrp h))
              have HX6 := Lib.hid (blk_kp HX5.out hk2 (fun h => by omega))
              have HB6 := Lib.hid (below_kp HB5.out HB5.out.size hk2 (fun k hk => by omega))
              dsimp only
              refine hK.out _ _ (boxc HX6.out) (fun hHeld => ?_)
              clear hK K hp hk2
              repeat (first | (refine tr_skip (by rfl) ?_; try simp only [Act.put, List.setIfInBounds_toArray, List.set_cons_zero, List.set_cons_succ]) | (refine tr_not (by rfl) (by assumption) ?_; try simp only [Act.put, List.setIfInBounds_toArray, List.set_cons_zero, List.set_cons_succ]) | (refine tr_take (v := ?_) (by rfl) ?_ ?_; rotate_left; (focus ((intro w hSw; (try dsimp only at hSw); go_simp; (try with_reducible rfl)); done)); try simp only [Act.put, List.setIfInBounds_toArray, List.set_cons_zero, List.set_cons_succ]))
              refine tr_do (fun K hK => ?_)
              go_simp
              refine hK.out _ _ (boxc (HX6.out.alloc _)) (fun hHeld => ?_)
              clear hK K
              refine tr_do (fun K hK => ?_)
              go_simp
              refine hK.out _ _ (boxc (HX6.out.alloc _)) (fun hHeld => ?_)
              clear hK K
              repeat (first | (refine tr_skip (by rfl) ?_; try simp only [Act.put, List.setIfInBounds_toArray, List.set_cons_zero, List.set_cons_succ]) | (refine tr_not (by rfl) (by assumption) ?_; try simp only [Act.put, List.setIfInBounds_toArray, List.set_cons_zero, List.set_cons_succ]) | (refine tr_take (v := ?_) (by rfl) ?_ ?_; rotate_left; (focus ((intro w hSw; (try dsimp only at hSw); go_simp; (try with_reducible rfl)); done)); try simp only [Act.put, List.setIfInBounds_toArray, List.set_cons_zero, List.set_cons_succ]))
              refine tr_done ?_
              clear hHeld
              go_wp2
              go_meet
              exact ⟨_, rfl, rfl, Blk.new _ _ _, HP6.out.alloc _, HR6.out.alloc _, HX6.out.alloc _, HB6.out.alloc HB6.out.size _⟩
            · as_aux_lemma =>
              refine tr_do (fun K hK => ?_)
              go_simp
              refine hK.out _ _ (boxc (HX5.out.alloc _)) (fun hHeld => ?_)
              clear hK K
              refine tr_do (fun K hK => ?_)
              go_simp
              go_at_call 17
              (with_reducible refine Calls.mono (CA.out _ _ (HP5.out.alloc _)) ?_)
              rintro e w6 ⟨rfl, hp, hk2⟩
              have HPn := Lib.hid hp
              have HRn := Lib.hid (blk_kp (HR5.out.alloc _) hk2 (fun h => hrp h))
              have HXn := Lib.hid (blk_kp (HX5.out.alloc _) hk2 (fun h => by omega))
              have HNn := Lib.hid (blk_kp (Blk.new w5 43 #[.int .i64 0, .int .i64 0, .int .i64 0]) hk2 (fun h => by omega))
              have HBn := Lib.hid (below_kp (HB5.out.alloc HB5.out.size _) (by have := HB5.out.size; simp; omega) hk2 (fun k hk => by omega))
              have hs6 := hk2.size
              dsimp only
              refine hK.out _ _ (boxc HXn.out) (fun hHeld => ?_)
              clear hK K hp hk2
              repeat (first | (refine tr_skip (by rfl) ?_; try simp only [Act.put, List.setIfInBounds_toArray, List.set_cons_zero, List.set_cons_succ]) | (refine tr_not (by rfl) (by assumption) ?_; try simp only [Act.put, List.setIfInBounds_toArray, List.set_cons_zero, List.set_cons_succ]) | (refine tr_take (v := ?_) (by rfl) ?_ ?_; rotate_left; (focus ((intro w hSw; (try dsimp only at hSw); go_simp; (try with_reducible rfl)); done)); try simp only [Act.put, List.setIfInBounds_toArray, List.set_cons_zero, List.set_cons_succ]))
              have hy := cells3 HNn.out
              obtain ⟨y0, y1, y2, y3, y4, y5⟩ := hy
              refine tr_do (fun K hK => ?_)
              go_simp
              have hQ1 : Pd (((w6.setCell ⟨w5.heap.size, 0, none⟩ (.int .i64 v0)).setCell ⟨w5.heap.size, 1, none⟩ (.int .i64 v1)).setCell ⟨w5.heap.size, 2, none⟩ (.int .i64 v2)) p a0 s2 := by
                have k := HPn.out
                ((repeat (first | (with_reducible assumption) | (with_reducible apply Blk.drew) | (with_reducible apply set_at2) | ((with_reducible apply set_far); (focus omega)) | (with_reducible apply Blk.alloc))); all_goals rfl)
              have hQ2 : Rd (((w6.setCell ⟨w5.heap.size, 0, none⟩ (.int .i64 v0)).setCell ⟨w5.heap.size, 1, none⟩ (.int .i64 v1)).setCell ⟨w5.heap.size, 2, none⟩ (.int .i64 v2)) r a0 s := by
                have k := HRn.out
                ((repeat (first | (with_reducible assumption) | (with_reducible apply Blk.drew) | (with_reducible apply set_at2) | ((with_reducible apply set_far); (focus omega)) | (with_reducible apply Blk.alloc))); all_goals rfl)
              have hQ3 : Blk (((w6.setCell ⟨w5.heap.size, 0, none⟩ (.int .i64 v0)).setCell ⟨w5.heap.size, 1, none⟩ (.int .i64 v1)).setCell ⟨w5.heap.size, 2, none⟩ (.int .i64 v2)) bx 56 #[.int .i64 3, .int .i64 x1, .int .i64 x2, .int .i64 x3, .int .i64 x4, .int .i64 x5, .int .i64 x6, .int .u16 x7, .int .u16 x8, .int .i64 x9, .int .i64 x10, .int .i64 x11, .int .i64 x12, .int .i64 x13, .int .i64 x14, .int .i64 x15, .int .i64 x16] := by
                have k := HXn.out
                ((repeat (first | (with_reducible assumption) | (with_reducible apply Blk.drew) | (with_reducible apply set_at2) | ((with_reducible apply set_far); (focus omega)) | (with_reducible apply Blk.alloc))); all_goals rfl)
              have hQ4 : Blk (((w6.setCell ⟨w5.heap.size, 0, none⟩ (.int .i64 v0)).setCell ⟨w5.heap.size, 1, none⟩ (.int .i64 v1)).setCell ⟨w5.heap.size, 2, none⟩ (.int .i64 v2)) (w5.heap.size) 43 #[.int .i64 v0, .int .i64 v1, .int .i64 v2] := by
                have k := HNn.out
                ((repeat (first | (with_reducible assumption) | (with_reducible apply Blk.drew) | (with_reducible apply set_at2) | ((with_reducible apply set_far); (focus omega)) | (with_reducible apply Blk.alloc))); all_goals rfl)
              have hQ5 : Below W.heap.size W (((w6.setCell ⟨w5.heap.size, 0, none⟩ (.int .i64 v0)).setCell ⟨w5.heap.size, 1, none⟩ (.int .i64 v1)).setCell ⟨w5.heap.size, 2, none⟩ (.int .i64 v2)) := by
                have k := HBn.out
                (repeat (first | (with_reducible assumption) | (with_reducible apply below_drew) | ((with_reducible apply below_set); (focus omega)) | ((with_reducible apply below_at); (focus ((try simp only [size_set, size_drew, World.size_alloc]); omega)))))
              have HQ1 := Lib.hid hQ1
              have HQ2 := Lib.hid hQ2
              have HQ3 := Lib.hid hQ3
              have HQ4 := Lib.hid hQ4
              have HQ5 := Lib.hid hQ5
              clear hQ1 hQ2 hQ3 hQ4 hQ5
              refine hK.out _ _ (boxc HQ3.out) (fun hHeld => ?_)
              clear hK K
              repeat (first | (refine tr_skip (by rfl) ?_; try simp only [Act.put, List.setIfInBounds_toArray, List.set_cons_zero, List.set_cons_succ]) | (refine tr_not (by rfl) (by assumption) ?_; try simp only [Act.put, List.setIfInBounds_toArray, List.set_cons_zero, List.set_cons_succ]) | (refine tr_take (v := ?_) (by rfl) ?_ ?_; rotate_left; (focus ((intro w hSw; (try dsimp only at hSw); go_simp; (try with_reducible rfl)); done)); try simp only [Act.put, List.setIfInBounds_toArray, List.set_cons_zero, List.set_cons_succ]))
              refine tr_done ?_
              clear hHeld
              go_wp2
              go_meet
              exact ⟨_, rfl, rfl, HQ4.out, HQ1.out, HQ2.out, HQ3.out, HQ5.out⟩
          · as_aux_lemma =>
            refine tr_do (fun K hK => ?_)
            go_simp
            refine hK.out _ _ (boxc (HXd.out.alloc _)) (fun hHeld => ?_)
            clear hK K
            refine tr_do (fun K hK => ?_)
            go_simp
            go_at_call 18
            (with_reducible refine Calls.mono (CY.out _) ?_)
            rintro e w5 ⟨rfl, hb⟩
            have HP5 := Lib.hid ((HPd.out.alloc _).keeps hb)
            have HR5 := Lib.hid ((HRd.out.alloc _).keeps hb)
            have HX5 := Lib.hid ((HXd.out.alloc _).keeps hb)
            have HN5 := Lib.hid ((Blk.new w2 43 #[.int .i64 0, .int .i64 0, .int .i64 0]).drew.keeps hb)
            have HB5 := Lib.hid ((HBd.out.alloc HBd.out.size _).trans (hb.mono (HBd.out.alloc HBd.out.size _).size))
            dsimp only
            refine hK.out _ _ (boxc HX5.out) (fun hHeld => ?_)
            clear hK K hb
            refine tr_do (fun K hK => ?_)
            go_simp
            go_at_call 17
            (with_reducible refine Calls.mono (CA.out _ _ HP5.out) ?_)
            rintro e w6 ⟨rfl, hp, hk2⟩
            have HPn := Lib.hid hp
            have HRn := Lib.hid (blk_kp HR5.out hk2 (fun h => hrp h))
            have HXn := Lib.hid (blk_kp HX5.out hk2 (fun h => by omega))
            have HNn := Lib.hid (blk_kp HN5.out hk2 (fun h => by omega))
            have HBn := Lib.hid (below_kp HB5.out HB5.out.size hk2 (fun k hk => by omega))
            dsimp only
            refine hK.out _ _ (boxc HXn.out) (fun hHeld => ?_)
            clear hK K hp hk2
            repeat (first | (refine tr_skip (by rfl) ?_; try simp only [Act.put, List.setIfInBounds_toArray, List.set_cons_zero, List.set_cons_succ]) | (refine tr_not (by rfl) (by assumption) ?_; try simp only [Act.put, List.setIfInBounds_toArray, List.set_cons_zero, List.set_cons_succ]) | (refine tr_take (v := ?_) (by rfl) ?_ ?_; rotate_left; (focus ((intro w hSw; (try dsimp only at hSw); go_simp; (try with_reducible rfl)); done)); try simp only [Act.put, List.setIfInBounds_toArray, List.set_cons_zero, List.set_cons_succ]))
            have hy := cells3 HNn.out
            obtain ⟨y0, y1, y2, y3, y4, y5⟩ := hy
            refine tr_do (fun K hK => ?_)
            go_simp
            have hQ1 : Pd (((w6.setCell ⟨w2.heap.size, 0, none⟩ (.int .i64 v0)).setCell ⟨w2.heap.size, 1, none⟩ (.int .i64 v1)).setCell ⟨w2.heap.size, 2, none⟩ (.int .i64 v2)) p a0 s2 := by
              have k := HPn.out
              ((repeat (first | (with_reducible assumption) | (with_reducible apply Blk.drew) | (with_reducible apply set_at2) | ((with_reducible apply set_far); (focus omega)) | (with_reducible apply Blk.alloc))); all_goals rfl)
            have hQ2 : Rd (((w6.setCell ⟨w2.heap.size, 0, none⟩ (.int .i64 v0)).setCell ⟨w2.heap.size, 1, none⟩ (.int .i64 v1)).setCell ⟨w2.heap.size, 2, none⟩ (.int .i64 v2)) r a0 s := by
              have k := HRn.out
              ((repeat (first | (with_reducible assumption) | (with_reducible apply Blk.drew) | (with_reducible apply set_at2) | ((with_reducible apply set_far); (focus omega)) | (with_reducible apply Blk.alloc))); all_goals rfl)
            have hQ3 : Blk (((w6.setCell ⟨w2.heap.size, 0, none⟩ (.int .i64 v0)).setCell ⟨w2.heap.size, 1, none⟩ (.int .i64 v1)).setCell ⟨w2.heap.size, 2, none⟩ (.int .i64 v2)) bx 56 #[.int .i64 3, .int .i64 x1, .int .i64 x2, .int .i64 x3, .int .i64 x4, .int .i64 x5, .int .i64 x6, .int .u16 x7, .int .u16 x8, .int .i64 x9, .int .i64 x10, .int .i64 x11, .int .i64 x12, .int .i64 x13, .int .i64 x14, .int .i64 x15, .int .i64 x16] := by
              have k := HXn.out
              ((repeat (first | (with_reducible assumption) | (with_reducible apply Blk.drew) | (with_reducible apply set_at2) | ((with_reducible apply set_far); (focus omega)) | (with_reducible apply Blk.alloc))); all_goals rfl)
            have hQ4 : Blk (((w6.setCell ⟨w2.heap.size, 0, none⟩ (.int .i64 v0)).setCell ⟨w2.heap.size, 1, none⟩ (.int .i64 v1)).setCell ⟨w2.heap.size, 2, none⟩ (.int .i64 v2)) (w2.heap.size) 43 #[.int .i64 v0, .int .i64 v1, .int .i64 v2] := by
              have k := HNn.out
              ((repeat (first | (with_reducible assumption) | (with_reducible apply Blk.drew) | (with_reducible apply set_at2) | ((with_reducible apply set_far); (focus omega)) | (with_reducible apply Blk.alloc))); all_goals rfl)
            have hQ5 : Below W.heap.size W (((w6.setCell ⟨w2.heap.size, 0, none⟩ (.int .i64 v0)).setCell ⟨w2.heap.size, 1, none⟩ (.int .i64 v1)).setCell ⟨w2.heap.size, 2, none⟩ (.int .i64 v2)) := by
              have k := HBn.out
              (repeat (first | (with_reducible assumption) | (with_reducible apply below_drew) | ((with_reducible apply below_set); (focus omega)) | ((with_reducible apply below_at); (focus ((try simp only [size_set, size_drew, World.size_alloc]); omega)))))
            have HQ1 := Lib.hid hQ1
            have HQ2 := Lib.hid hQ2
            have HQ3 := Lib.hid hQ3
            have HQ4 := Lib.hid hQ4
            have HQ5 := Lib.hid hQ5
            clear hQ1 hQ2 hQ3 hQ4 hQ5
            refine hK.out _ _ (boxc HQ3.out) (fun hHeld => ?_)
            clear hK K
            repeat (first | (refine tr_skip (by rfl) ?_; try simp only [Act.put, List.setIfInBounds_toArray, List.set_cons_zero, List.set_cons_succ]) | (refine tr_not (by rfl) (by assumption) ?_; try simp only [Act.put, List.setIfInBounds_toArray, List.set_cons_zero, List.set_cons_succ]) | (refine tr_take (v := ?_) (by rfl) ?_ ?_; rotate_left; (focus ((intro w hSw; (try dsimp only at hSw); go_simp; (try with_reducible rfl)); done)); try simp only [Act.put, List.setIfInBounds_toArray, List.set_cons_zero, List.set_cons_succ]))
            refine tr_done ?_
            clear hHeld
            go_wp2
            go_meet
            exact ⟨_, rfl, rfl, HQ4.out, HQ1.out, HQ2.out, HQ3.out, HQ5.out⟩
        case rest => as_aux_lemma =>
          obtain ⟨b, rfl, rfl, hxb, hp, hr, hx, hB⟩ := hcut
          have HN5 := Lib.hid hxb
          have HP5 := Lib.hid hp
          have HR5 := Lib.hid hr
          have HX5 := Lib.hid hx
          have HB5 := Lib.hid hB
          have hbb : b < wc.heap.size := hxb.lt
          have hbr : ¬ b = r := fun h => by have := Blk.ne_ hxb hr (by decide); exact this h
          have hcb := boxc hx
          obtain ⟨d2, d3, d4, d5, d6, d7, d8, d9, d10, d11, d12, d13, d14, d15, d16⟩ := hcb
          clear hxb hp hr hx hB HP2 HR2 HX2 HB2
          go_wp2_with fail
          refine (CR.out _ _ HR5.out).mono ?_
          rintro e w6 ⟨rfl, hr, hk3⟩
          have HRT := Lib.hid (hr.alloc (.cells #[.int .i64 v0, .int .i64 v1, .int .i64 v2] 58))
          have HPT := Lib.hid ((blk_kp HP5.out hk3 (fun h => hrp h.symm)).alloc (.cells #[.int .i64 v0, .int .i64 v1, .int .i64 v2] 58))
          have HF6 := Lib.hid ((blk_kp HN5.out hk3 (fun h => hbr h)).alloc (.cells #[.int .i64 v0, .int .i64 v1, .int .i64 v2] 58))
          have HBT := Lib.hid ((below_kp HB5.out HB5.out.size hk3 (fun k hk => by omega)).alloc (Nat.le_trans HB5.out.size hk3.size) (.cells #[.int .i64 v0, .int .i64 v1, .int .i64 v2] 58))
          have hf := cells3 HF6.out
          obtain ⟨g0, g1, g2, _, _, _⟩ := hf
          clear hr hk3 HR5 HP5 HX5 HN5 HB5 CR d2 d3 d4 d5 d6 d7 d8 d9 d10 d11 d12 d13 d14 d15 d16
          go_upto_region 38 with fail
          clear g0 g1 g2
          obtain ⟨r2, rfl⟩ : ∃ r2, r2 = r := ⟨_, rfl⟩
          have hbx2 := hr0
          refine wp_region_seq [(0, true), (2, true), (3, true), (4, true), (5, true), (1, false), (6, true), (7, true), (8, true), (10, true), (11, true), (12, true), (13, true), (9, false), (14, true), (15, true)] (fun w' => w'.cell? ⟨r2, 3, none⟩ = some (.bool s2.waiting) ∧ w'.cell? ⟨r2, 6, none⟩ = some (.int .i64 s2.rest)) (by kernel_rfl) (by kernel_rfl) ⟨HRT.out.drew.cell 3, HRT.out.drew.cell 6⟩ (fun hHeld => ?_)
          simp only [List.map_cons, List.map_nil, List.getElem?_toArray, List.getElem?_cons_zero, List.getElem?_cons_succ]
          repeat (first | (first | (refine seq_skip (by rfl) ?_; try simp only [Act.put, List.setIfInBounds_toArray, List.set_cons_zero, List.set_cons_succ]) | (refine seq_not (by rfl) (by assumption) ?_; try simp only [Act.put, List.setIfInBounds_toArray, List.set_cons_zero, List.set_cons_succ]) | (refine seq_take (v := ?_) (by rfl) ?_ ?_; rotate_left; (focus ((intro w hSw; (try dsimp only at hSw); go_simp; (try with_reducible rfl)); done)); try simp only [Act.put, List.setIfInBounds_toArray, List.set_cons_zero, List.set_cons_succ])) | (refine seq_do (fun K hK => ?_); go_simp; (first | (go_at_call 20; (with_reducible refine Calls.mono (waits_ok p a0 s2 _ HPT.out.drew) ?_)) | (go_at_call 21; (with_reducible refine Calls.mono (rests_ok p a0 s2 _ HPT.out.drew) ?_))); rintro e w' ⟨rfl, rfl⟩; dsimp only; refine hK.out _ _ (by assumption) (fun _ => ?_); clear hK K))
          refine seq_done ?_
          clear hHeld
          go_wp2
          go_roundw
          case rel => exact ⟨k + 1, r2, s2, hlt, by go_num, rfl, hbx2, HS2.out, HPT.out.drew, HRT.out.drew, below_drew HBT.out⟩
          case measure => simp [intOf]; omega
      by_cases k4 : x0 = 4
      · as_aux_lemma =>
        subst k4
        go_upto_region 18 with fail
        clear e0 e1 e2 e3 e4 e5 e6 e7 e8 e9 e10 e11 e12 e13 e14 e15 e16
        generalize wr.alloc (.cells #[.int .i64 4, .int .i64 x1, .int .i64 x2, .int .i64 x3, .int .i64 x4, .int .i64 x5, .int .i64 x6, .int .u16 x7, .int .u16 x8, .int .i64 x9, .int .i64 x10, .int .i64 x11, .int .i64 x12, .int .i64 x13, .int .i64 x14, .int .i64 x15, .int .i64 x16] 56) = w2 at HP2 HR2 HX2 HB2 ⊢
        generalize wr.heap.size = bx at HX2 hbx hbp hbr ⊢
        have b0 := HX2.out.cell 0
        have b1 := HX2.out.cell 1
        have b2 := HX2.out.cell 2
        have CA := Lib.hid (fun p w h => beat_ok p a0 s w h HS.out)
        have CR := Lib.hid (fun r w h => rbeat_ok r a0 s w h HS.out)
        have HS2' := Lib.hid HS.out.beat
        generalize beat s = bs at CA CR HS2'
        obtain ⟨v, s2⟩ := bs
        have HS2 := Lib.hid (show StOk s2 from HS2'.out)
        clear HS HS2'
        go_wp2_with fail
        refine (CA.out _ _ HP2.out).mono ?_
        rintro e w5 ⟨rfl, hp, hk2⟩
        have HP5 := Lib.hid hp
        have HR5 := Lib.hid (blk_kp HR2.out hk2 (fun h => hrp h))
        have HB5 := Lib.hid (below_kp HB2.out HB2.out.size hk2 (fun k hk => by omega))
        clear hp hk2 HP2 HR2 HX2 HB2 CA
        go_wp2_with fail
        refine (CR.out _ _ HR5.out).mono ?_
        rintro e w6 ⟨rfl, hr, hk3⟩
        have HRT := Lib.hid hr
        have HPT := Lib.hid (blk_kp HP5.out hk3 (fun h => hrp h.symm))
        have HBT := Lib.hid (below_kp HB5.out HB5.out.size hk3 (fun k hk => by omega))
        clear hr hk3 HR5 HP5 HB5 CR
        go_upto_region 38 with fail
        obtain ⟨r2, rfl⟩ : ∃ r2, r2 = r := ⟨_, rfl⟩
        have hbx2 := hr0
        refine wp_region_seq [(0, true), (2, true), (3, true), (4, true), (5, true), (1, false), (6, true), (7, true), (8, true), (10, true), (11, true), (12, true), (13, true), (9, false), (14, true), (15, true)] (fun w' => w'.cell? ⟨r2, 3, none⟩ = some (.bool s2.waiting) ∧ w'.cell? ⟨r2, 6, none⟩ = some (.int .i64 s2.rest)) (by kernel_rfl) (by kernel_rfl) ⟨HRT.out.drew.cell 3, HRT.out.drew.cell 6⟩ (fun hHeld => ?_)
        simp only [List.map_cons, List.map_nil, List.getElem?_toArray, List.getElem?_cons_zero, List.getElem?_cons_succ]
        repeat (first | (first | (refine seq_skip (by rfl) ?_; try simp only [Act.put, List.setIfInBounds_toArray, List.set_cons_zero, List.set_cons_succ]) | (refine seq_not (by rfl) (by assumption) ?_; try simp only [Act.put, List.setIfInBounds_toArray, List.set_cons_zero, List.set_cons_succ]) | (refine seq_take (v := ?_) (by rfl) ?_ ?_; rotate_left; (focus ((intro w hSw; (try dsimp only at hSw); go_simp; (try with_reducible rfl)); done)); try simp only [Act.put, List.setIfInBounds_toArray, List.set_cons_zero, List.set_cons_succ])) | (refine seq_do (fun K hK => ?_); go_simp; (first | (go_at_call 20; (with_reducible refine Calls.mono (waits_ok p a0 s2 _ HPT.out.drew) ?_)) | (go_at_call 21; (with_reducible refine Calls.mono (rests_ok p a0 s2 _ HPT.out.drew) ?_))); rintro e w' ⟨rfl, rfl⟩; dsimp only; refine hK.out _ _ (by assumption) (fun _ => ?_); clear hK K))
        refine seq_done ?_
        clear hHeld
        go_wp2
        go_roundw
        case rel => exact ⟨k + 1, r2, s2, hlt, by go_num, rfl, hbx2, HS2.out, HPT.out.drew, HRT.out.drew, below_drew HBT.out⟩
        case measure => simp [intOf]; omega
      by_cases k5 : x0 = 5
      · as_aux_lemma =>
        subst k5
        go_upto_region 18 with fail
        clear e0 e1 e2 e3 e4 e5 e6 e7 e8 e9 e10 e11 e12 e13 e14 e15 e16
        generalize wr.alloc (.cells #[.int .i64 5, .int .i64 x1, .int .i64 x2, .int .i64 x3, .int .i64 x4, .int .i64 x5, .int .i64 x6, .int .u16 x7, .int .u16 x8, .int .i64 x9, .int .i64 x10, .int .i64 x11, .int .i64 x12, .int .i64 x13, .int .i64 x14, .int .i64 x15, .int .i64 x16] 56) = w2 at HP2 HR2 HX2 HB2 ⊢
        generalize wr.heap.size = bx at HX2 hbx hbp hbr ⊢
        have b0 := HX2.out.cell 0
        have b1 := HX2.out.cell 1
        have b2 := HX2.out.cell 2
        have CA := Lib.hid (fun p w h => beat_ok p a0 s w h HS.out)
        have CR := Lib.hid (fun r w h => rbeat_ok r a0 s w h HS.out)
        have HS2' := Lib.hid HS.out.beat
        generalize beat s = bs at CA CR HS2'
        obtain ⟨v, s2⟩ := bs
        have HS2 := Lib.hid (show StOk s2 from HS2'.out)
        clear HS HS2'
        go_wp2_with fail
        refine (CA.out _ _ HP2.out).mono ?_
        rintro e w5 ⟨rfl, hp, hk2⟩
        have HP5 := Lib.hid hp
        have HR5 := Lib.hid (blk_kp HR2.out hk2 (fun h => hrp h))
        have HB5 := Lib.hid (below_kp HB2.out HB2.out.size hk2 (fun k hk => by omega))
        clear hp hk2 HP2 HR2 HX2 HB2 CA
        go_wp2_with fail
        refine (CR.out _ _ HR5.out).mono ?_
        rintro e w6 ⟨rfl, hr, hk3⟩
        have HRT := Lib.hid hr
        have HPT := Lib.hid (blk_kp HP5.out hk3 (fun h => hrp h.symm))
        have HBT := Lib.hid (below_kp HB5.out HB5.out.size hk3 (fun k hk => by omega))
        clear hr hk3 HR5 HP5 HB5 CR
        go_upto_region 38 with fail
        obtain ⟨r2, rfl⟩ : ∃ r2, r2 = r := ⟨_, rfl⟩
        have hbx2 := hr0
        refine wp_region_seq [(0, true), (2, true), (3, true), (4, true), (5, true), (1, false), (6, true), (7, true), (8, true), (10, true), (11, true), (12, true), (13, true), (9, false), (14, true), (15, true)] (fun w' => w'.cell? ⟨r2, 3, none⟩ = some (.bool s2.waiting) ∧ w'.cell? ⟨r2, 6, none⟩ = some (.int .i64 s2.rest)) (by kernel_rfl) (by kernel_rfl) ⟨HRT.out.drew.cell 3, HRT.out.drew.cell 6⟩ (fun hHeld => ?_)
        simp only [List.map_cons, List.map_nil, List.getElem?_toArray, List.getElem?_cons_zero, List.getElem?_cons_succ]
        repeat (first | (first | (refine seq_skip (by rfl) ?_; try simp only [Act.put, List.setIfInBounds_toArray, List.set_cons_zero, List.set_cons_succ]) | (refine seq_not (by rfl) (by assumption) ?_; try simp only [Act.put, List.setIfInBounds_toArray, List.set_cons_zero, List.set_cons_succ]) | (refine seq_take (v := ?_) (by rfl) ?_ ?_; rotate_left; (focus ((intro w hSw; (try dsimp only at hSw); go_simp; (try with_reducible rfl)); done)); try simp only [Act.put, List.setIfInBounds_toArray, List.set_cons_zero, List.set_cons_succ])) | (refine seq_do (fun K hK => ?_); go_simp; (first | (go_at_call 20; (with_reducible refine Calls.mono (waits_ok p a0 s2 _ HPT.out.drew) ?_)) | (go_at_call 21; (with_reducible refine Calls.mono (rests_ok p a0 s2 _ HPT.out.drew) ?_))); rintro e w' ⟨rfl, rfl⟩; dsimp only; refine hK.out _ _ (by assumption) (fun _ => ?_); clear hK K))
        refine seq_done ?_
        clear hHeld
        go_wp2
        go_roundw
        case rel => exact ⟨k + 1, r2, s2, hlt, by go_num, rfl, hbx2, HS2.out, HPT.out.drew, HRT.out.drew, below_drew HBT.out⟩
        case measure => simp [intOf]; omega
      by_cases k6 : x0 = 6
      · as_aux_lemma =>
        subst k6
        go_upto_region 18 with fail
        clear e0 e1 e2 e3 e4 e5 e6 e7 e8 e9 e10 e11 e12 e13 e14 e15 e16
        generalize wr.alloc (.cells #[.int .i64 6, .int .i64 x1, .int .i64 x2, .int .i64 x3, .int .i64 x4, .int .i64 x5, .int .i64 x6, .int .u16 x7, .int .u16 x8, .int .i64 x9, .int .i64 x10, .int .i64 x11, .int .i64 x12, .int .i64 x13, .int .i64 x14, .int .i64 x15, .int .i64 x16] 56) = w2 at HP2 HR2 HX2 HB2 ⊢
        generalize wr.heap.size = bx at HX2 hbx hbp hbr ⊢
        have b0 := HX2.out.cell 0
        have b1 := HX2.out.cell 1
        have b2 := HX2.out.cell 2
        go_wp2_with fail
        refine (boot_ok p a0 s _ HP2.out).mono ?_
        rintro e w5 ⟨rfl, hp, hk2⟩
        have HB5 := Lib.hid (below_kp HB2.out HB2.out.size hk2 (fun k hk => by omega))
        have HPT := Lib.hid (hp.alloc (.cells (st0.cs a0) 54))
        have HRT := Lib.hid (show Rd _ _ _ _ from Blk.new w5 54 (st0.cs a0))
        have HBT := Lib.hid (HB5.out.alloc HB5.out.size (.cells (st0.cs a0) 54))
        have HS2 := Lib.hid StOk.st0
        have hbx2 := HB5.out.size
        clear hp hk2 HP2 HR2 HX2 HB2 HS HB5
        go_upto_region 38 with fail
        obtain ⟨w6, h6⟩ : ∃ w6, w5.alloc (.cells #[.int .i64 a0, .int .i64 0, .int .i64 0, .bool false, .int .i64 0, .int .i64 0, .int .i64 0] 54) = w6 := ⟨_, rfl⟩
        have HPT : Hid (Pd w6 p a0 st0) := Lib.hid (h6 ▸ HPT.out)
        have HRT : Hid (Rd w6 w5.heap.size a0 st0) := Lib.hid (h6 ▸ HRT.out)
        have HBT : Hid (Below W.heap.size W w6) := Lib.hid (h6 ▸ HBT.out)
        rw [h6]
        clear h6
        generalize st0 = s2 at HPT HRT HS2
        generalize w5.heap.size = r2 at HRT hbx2 ⊢
        refine wp_region_seq [(0, true), (2, true), (3, true), (4, true), (5, true), (1, false), (6, true), (7, true), (8, true), (10, true), (11, true), (12, true), (13, true), (9, false), (14, true), (15, true)] (fun w' => w'.cell? ⟨r2, 3, none⟩ = some (.bool s2.waiting) ∧ w'.cell? ⟨r2, 6, none⟩ = some (.int .i64 s2.rest)) (by kernel_rfl) (by kernel_rfl) ⟨HRT.out.drew.cell 3, HRT.out.drew.cell 6⟩ (fun hHeld => ?_)
        simp only [List.map_cons, List.map_nil, List.getElem?_toArray, List.getElem?_cons_zero, List.getElem?_cons_succ]
        repeat (first | (first | (refine seq_skip (by rfl) ?_; try simp only [Act.put, List.setIfInBounds_toArray, List.set_cons_zero, List.set_cons_succ]) | (refine seq_not (by rfl) (by assumption) ?_; try simp only [Act.put, List.setIfInBounds_toArray, List.set_cons_zero, List.set_cons_succ]) | (refine seq_take (v := ?_) (by rfl) ?_ ?_; rotate_left; (focus ((intro w hSw; (try dsimp only at hSw); go_simp; (try with_reducible rfl)); done)); try simp only [Act.put, List.setIfInBounds_toArray, List.set_cons_zero, List.set_cons_succ])) | (refine seq_do (fun K hK => ?_); go_simp; (first | (go_at_call 20; (with_reducible refine Calls.mono (waits_ok p a0 s2 _ HPT.out.drew) ?_)) | (go_at_call 21; (with_reducible refine Calls.mono (rests_ok p a0 s2 _ HPT.out.drew) ?_))); rintro e w' ⟨rfl, rfl⟩; dsimp only; refine hK.out _ _ (by assumption) (fun _ => ?_); clear hK K))
        refine seq_done ?_
        clear hHeld
        go_wp2
        go_roundw
        case rel => exact ⟨k + 1, r2, s2, hlt, by go_num, rfl, hbx2, HS2.out, HPT.out.drew, HRT.out.drew, below_drew HBT.out⟩
        case measure => simp [intOf]; omega
      have k0b : (x0 == 0) = false := by simpa using k0
      have k1b : (x0 == 1) = false := by simpa using k1
      have k2b : (x0 == 2) = false := by simpa using k2
      have k3b : (x0 == 3) = false := by simpa using k3
      have k4b : (x0 == 4) = false := by simpa using k4
      have k5b : (x0 == 5) = false := by simpa using k5
      have k6b : (x0 == 6) = false := by simpa using k6
      clear k0 k1 k2 k3 k4 k5 k6
      go_upto_region 18 with fail
      clear e0 e1 e2 e3 e4 e5 e6 e7 e8 e9 e10 e11 e12 e13 e14 e15 e16
      generalize wr.alloc (.cells #[.int .i64 x0, .int .i64 x1, .int .i64 x2, .int .i64 x3, .int .i64 x4, .int .i64 x5, .int .i64 x6, .int .u16 x7, .int .u16 x8, .int .i64 x9, .int .i64 x10, .int .i64 x11, .int .i64 x12, .int .i64 x13, .int .i64 x14, .int .i64 x15, .int .i64 x16] 56) = w2 at HP2 HR2 HX2 HB2 ⊢
      generalize wr.heap.size = bx at HX2 hbx hbp hbr ⊢
      have b0 := HX2.out.cell 0
      have b1 := HX2.out.cell 1
      have b2 := HX2.out.cell 2
      go_upto_region 38 with fail
      have HPT := HP2
      have HRT := HR2
      have HBT := HB2
      have HS2 := HS
      obtain ⟨r2, rfl⟩ : ∃ r2, r2 = r := ⟨_, rfl⟩
      obtain ⟨s2, rfl⟩ : ∃ s2, s2 = s := ⟨_, rfl⟩
      have hbx2 := hr0
      clear HP2 HR2 HX2 HB2 HS
      refine wp_region_seq [(0, true), (2, true), (3, true), (4, true), (5, true), (1, false), (6, true), (7, true), (8, true), (10, true), (11, true), (12, true), (13, true), (9, false), (14, true), (15, true)] (fun w' => w'.cell? ⟨r2, 3, none⟩ = some (.bool s2.waiting) ∧ w'.cell? ⟨r2, 6, none⟩ = some (.int .i64 s2.rest)) (by kernel_rfl) (by kernel_rfl) ⟨HRT.out.drew.cell 3, HRT.out.drew.cell 6⟩ (fun hHeld => ?_)
      simp only [List.map_cons, List.map_nil, List.getElem?_toArray, List.getElem?_cons_zero, List.getElem?_cons_succ]
      repeat (first | (first | (refine seq_skip (by rfl) ?_; try simp only [Act.put, List.setIfInBounds_toArray, List.set_cons_zero, List.set_cons_succ]) | (refine seq_not (by rfl) (by assumption) ?_; try simp only [Act.put, List.setIfInBounds_toArray, List.set_cons_zero, List.set_cons_succ]) | (refine seq_take (v := ?_) (by rfl) ?_ ?_; rotate_left; (focus ((intro w hSw; (try dsimp only at hSw); go_simp; (try with_reducible rfl)); done)); try simp only [Act.put, List.setIfInBounds_toArray, List.set_cons_zero, List.set_cons_succ])) | (refine seq_do (fun K hK => ?_); go_simp; (first | (go_at_call 20; (with_reducible refine Calls.mono (waits_ok p a0 s2 _ HPT.out.drew) ?_)) | (go_at_call 21; (with_reducible refine Calls.mono (rests_ok p a0 s2 _ HPT.out.drew) ?_))); rintro e w' ⟨rfl, rfl⟩; dsimp only; refine hK.out _ _ (by assumption) (fun _ => ?_); clear hK K))
      refine seq_done ?_
      clear hHeld
      go_wp2
      go_roundw
      case rel => exact ⟨k + 1, r2, s2, hlt, by go_num, rfl, hbx2, HS2.out, HPT.out.drew, HRT.out.drew, below_drew HBT.out⟩
      case measure => simp [intOf]; omega
    · go_wp2
      go_ret
      exact ⟨rfl, HB.out⟩
end Go.Proofs.Ythnnejflgbminab.PairDoesW
