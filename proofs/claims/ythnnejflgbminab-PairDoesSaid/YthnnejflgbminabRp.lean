/- The walks of the document's node. -/
import Derived.Test.YthnnejflgbminabPr4
import Derived.Test.YthnnejflgbminabCk2
namespace Go.Proofs.Ythnnejflgbminab.Pr
open Go.RowKit Go.Proofs.Ythnnejflgbminab.Bk Go.Proofs.Ythnnejflgbminab.Rw Go.Proofs.Ythnnejflgbminab.Ow Go.Proofs.Ythnnejflgbminab.Kp Go.Proofs.Ythnnejflgbminab.Sq Go.Proofs.Ythnnejflgbminab.Ck Go.Proofs.Ythnnejflgbminab.Ck2 Go.Proofs.Ythnnejflgbminab.Tm Go.Proofs.Ythnnejflgbminab.Frm Go.Proofs.Ythnnejflgbminab.Sq2

/-- The document's node at block r. -/
abbrev Rd (w : World) (r : Nat) (me : Int) (s : St) : Prop := Blk w r 54 (s.cs me)

set_option maxRecDepth 100000 in
set_option maxHeartbeats 400000 in
theorem fields_ok (me tt loc : Int) (w : World) : Calls Try.prog 33 #[.agg #[.int .i64 4, .int .i64 me, .int .i64 tt, .int .i64 0, .int .u16 0, .int .u16 0, .int .i64 0, .int .i64 0, .int .i64 0, .int .i64 loc, .int .i64 0, .int .i64 0, .int .i64 0, .int .i64 0]] w fun e w' => ∃ g, e = .returned (.slice (some ⟨g, 0, none⟩) 3 3) ∧ w.heap.size ≤ g ∧ Blk w' g 82 (([⟨1, me, 63⟩, ⟨1, tt, 63⟩, ⟨8, loc, 1125899906842624⟩] : List Fld).flatMap Fld.cs).toArray ∧ Below w.heap.size w w' := by
  go_enter Try.func33, Try.ntmps33
  go_wp2
  go_ret
  exact ⟨w.heap.size + 2, rfl, by omega, new_at (by simp), (((Below.refl _ _).alloc (Nat.le_refl _) _).alloc (by simp) _).alloc (by simp; omega) _⟩
set_option maxRecDepth 100000 in
set_option maxHeartbeats 800000 in
theorem rgood5_ok (me tt loc : Int) (w : World) : Calls Try.prog 30 #[.agg #[.int .i64 4, .int .i64 me, .int .i64 tt, .int .i64 0, .int .u16 0, .int .u16 0, .int .i64 0, .int .i64 0, .int .i64 0, .int .i64 loc, .int .i64 0, .int .i64 0, .int .i64 0, .int .i64 0]] w fun e w' => e = .returned (.bool (okPulse me tt loc)) ∧ Below w.heap.size w w' := by
  obtain ⟨fs, hfs⟩ : ∃ fs : List Fld, ([⟨1, me, 63⟩, ⟨1, tt, 63⟩, ⟨8, loc, 1125899906842624⟩] : List Fld) = fs := ⟨_, rfl⟩
  have hl : fs.length = 3 := by rw [← hfs]; rfl
  have HF := Lib.hid (fun w => hfs ▸ fields_ok me tt loc w)
  have HOK := Lib.hid (show okPulse me tt loc = fs.all Fld.ok by unfold okPulse; rw [hfs])
  have HL := Lib.hid hl
  clear hfs hl
  have HB0 := Lib.hid ((Below.refl _ w).alloc (Nat.le_refl _) (.cells #[.int .i64 4, .int .i64 me, .int .i64 tt, .int .i64 0, .int .u16 0, .int .u16 0, .int .i64 0, .int .i64 0, .int .i64 0, .int .i64 loc, .int .i64 0, .int .i64 0, .int .i64 0, .int .i64 0] 41))
  go_enter Try.func30, Try.ntmps30
  go_wp2_with (go_at_call 33; (with_reducible refine Calls.mono (HF.out _) ?_); rintro e w1 ⟨g, rfl, hg, hb, hw⟩; have HB := Lib.hid hb; have HW := Lib.hid (HB0.out.trans (hw.mono HB0.out.size)); clear hb hw)
  go_loopw [5, 10] (fun _ i wr => ∃ k : Nat, k ≤ 3 ∧ i = .int .i64 k ∧ (fs.take k).all Fld.ok = true ∧ Blk wr g 82 (fs.flatMap Fld.cs).toArray ∧ Below w.heap.size w wr) (fun _ i _ => 3 - (intOf i).toNat)
  case atStart => exact ⟨0, Nat.zero_le _, rfl, by simp, HB.out, HW.out⟩
  case round =>
    obtain ⟨k, hk, rfl, ha, hb, hw⟩ := hrel
    have HA := Lib.hid ha
    have HB1 := Lib.hid hb
    have HW1 := Lib.hid hw
    clear ha
    by_cases hlt : k < 3
    · obtain ⟨f, hf⟩ : ∃ f, fs[k]? = some f := ⟨_, List.getElem?_eq_getElem (by have := HL.out; omega)⟩
      have x0 : wr.cell? ⟨g, k * 3, none⟩ = some (.int .i64 f.size) := by
        have h := fd_at fs k f hf 0 _ rfl
        rw [Nat.add_zero] at h
        have := hb.cell (k * 3)
        rw [List.getElem?_toArray, h] at this
        exact this
      have x1 : wr.cell? ⟨g, k * 3 + 1, none⟩ = some (.int .i64 f.n) := by
        have := hb.cell (k * 3 + 1)
        rw [List.getElem?_toArray, fd_at fs k f hf 1 _ rfl] at this
        exact this
      have x2 : wr.cell? ⟨g, k * 3 + 2, none⟩ = some (.int .i64 f.most) := by
        have := hb.cell (k * 3 + 2)
        rw [List.getElem?_toArray, fd_at fs k f hf 2 _ rfl] at this
        exact this
      have HT := Lib.hid (all_take_succ fs k f hf)
      have HF2 := Lib.hid hf
      have HBN := Lib.hid (fun o => HB1.out.alloc o)
      have HWN := Lib.hid (fun o => HW1.out.alloc HW1.out.size o)
      clear hb hw hf
      obtain ⟨fz, fn, fm⟩ := f
      simp only at x0 x1 x2
      by_cases hok : Fld.ok ⟨fz, fn, fm⟩ = true
      · have hok2 : 0 ≤ fn ∧ fn ≤ fm := of_decide_eq_true hok
        have HOK := Lib.hid hok
        obtain ⟨h0, h1⟩ := hok2
        clear hok
        go_wp2
        go_roundw
        case rel => exact ⟨k + 1, hlt, by go_num, by rw [HT.out, HA.out, HOK.out]; rfl, HBN.out _, HWN.out _⟩
        case measure => simp [intOf]; omega
      · have hno : fs.all Fld.ok = false := by
          rw [List.all_eq_false]
          exact ⟨_, List.mem_of_getElem? HF2.out, hok⟩
        have hok2 : ¬ (0 ≤ fn ∧ fn ≤ fm) := fun h => hok (decide_eq_true h)
        have HNO := Lib.hid hno
        clear hok hno
        by_cases h0 : fn < 0
        · clear hok2
          go_wp2
          go_ret
          exact ⟨by rw [HOK.out, HNO.out]; rfl, HWN.out _⟩
        · have h1 : fm < fn := by omega
          clear hok2
          go_wp2
          go_ret
          exact ⟨by rw [HOK.out, HNO.out]; rfl, HWN.out _⟩
    · have hall : fs.all Fld.ok = true := by
        have := HA.out
        rwa [List.take_of_length_le (by have := HL.out; omega)] at this
      have HALL := Lib.hid hall
      clear hall
      go_wp2
      go_ret
      exact ⟨by rw [HOK.out, HALL.out]; rfl, HW1.out⟩
theorem cells14 {w : World} {b : Nat} {t : TypeId} {x0 x1 x2 x3 x4 x5 x6 x7 x8 x9 x10 x11 x12 x13 : Value} (h : Blk w b t #[x0, x1, x2, x3, x4, x5, x6, x7, x8, x9, x10, x11, x12, x13]) : w.cell? ⟨b, 0, none⟩ = some x0 ∧ w.cell? ⟨b, 1, none⟩ = some x1 ∧ w.cell? ⟨b, 2, none⟩ = some x2 ∧ w.cell? ⟨b, 3, none⟩ = some x3 ∧ w.cell? ⟨b, 4, none⟩ = some x4 ∧ w.cell? ⟨b, 5, none⟩ = some x5 ∧ w.cell? ⟨b, 6, none⟩ = some x6 ∧ w.cell? ⟨b, 7, none⟩ = some x7 ∧ w.cell? ⟨b, 8, none⟩ = some x8 ∧ w.cell? ⟨b, 9, none⟩ = some x9 ∧ w.cell? ⟨b, 10, none⟩ = some x10 ∧ w.cell? ⟨b, 11, none⟩ = some x11 ∧ w.cell? ⟨b, 12, none⟩ = some x12 ∧ w.cell? ⟨b, 13, none⟩ = some x13 ∧ w.frozen? ⟨b, 0, none⟩ = false ∧ w.frozen? ⟨b, 1, none⟩ = false ∧ w.frozen? ⟨b, 2, none⟩ = false ∧ w.frozen? ⟨b, 3, none⟩ = false ∧ w.frozen? ⟨b, 4, none⟩ = false ∧ w.frozen? ⟨b, 5, none⟩ = false ∧ w.frozen? ⟨b, 6, none⟩ = false ∧ w.frozen? ⟨b, 7, none⟩ = false ∧ w.frozen? ⟨b, 8, none⟩ = false ∧ w.frozen? ⟨b, 9, none⟩ = false ∧ w.frozen? ⟨b, 10, none⟩ = false ∧ w.frozen? ⟨b, 11, none⟩ = false ∧ w.frozen? ⟨b, 12, none⟩ = false ∧ w.frozen? ⟨b, 13, none⟩ = false :=
  ⟨h.cell 0, h.cell 1, h.cell 2, h.cell 3, h.cell 4, h.cell 5, h.cell 6, h.cell 7, h.cell 8, h.cell 9, h.cell 10, h.cell 11, h.cell 12, h.cell 13, h.frozen 0, h.frozen 1, h.frozen 2, h.frozen 3, h.frozen 4, h.frozen 5, h.frozen 6, h.frozen 7, h.frozen 8, h.frozen 9, h.frozen 10, h.frozen 11, h.frozen 12, h.frozen 13⟩
theorem ret_rask (Q : Ending → World → Prop) (a : Act) (W : World) (g : Nat) (t : TypeId) (x0 x1 x2 x3 x4 x5 x6 x7 x8 x9 x10 x11 x12 x13 : Int) (h2 : a.tmps.getD 6 undef = .pointer (some ⟨g, 0, none⟩)) (hd : a.defers = [])
    (hb : Blk W g t #[.int .i64 x0, .int .i64 x1, .int .i64 x2, .int .i64 x3, .int .u16 x4, .int .u16 x5, .int .i64 x6, .int .i64 x7, .int .i64 x8, .int .i64 x9, .int .i64 x10, .int .i64 x11, .int .i64 x12, .int .i64 x13]) (hq : Q (.returned (.agg #[.int .i64 x0, .int .i64 x1, .int .i64 x2, .int .i64 x3, .int .u16 x4, .int .u16 x5, .int .i64 x6, .int .i64 x7, .int .i64 x8, .int .i64 x9, .int .i64 x10, .int .i64 x11, .int .i64 x12, .int .i64 x13])) W) : bodyPost Try.prog Try.f23 Q .ret a W := by
  have q0 : W.cell? ⟨g, 0, none⟩ = some (.int .i64 x0) := hb.cell 0
  have q1 : W.cell? ⟨g, 1, none⟩ = some (.int .i64 x1) := hb.cell 1
  have q2 : W.cell? ⟨g, 2, none⟩ = some (.int .i64 x2) := hb.cell 2
  have q3 : W.cell? ⟨g, 3, none⟩ = some (.int .i64 x3) := hb.cell 3
  have q4 : W.cell? ⟨g, 4, none⟩ = some (.int .u16 x4) := hb.cell 4
  have q5 : W.cell? ⟨g, 5, none⟩ = some (.int .u16 x5) := hb.cell 5
  have q6 : W.cell? ⟨g, 6, none⟩ = some (.int .i64 x6) := hb.cell 6
  have q7 : W.cell? ⟨g, 7, none⟩ = some (.int .i64 x7) := hb.cell 7
  have q8 : W.cell? ⟨g, 8, none⟩ = some (.int .i64 x8) := hb.cell 8
  have q9 : W.cell? ⟨g, 9, none⟩ = some (.int .i64 x9) := hb.cell 9
  have q10 : W.cell? ⟨g, 10, none⟩ = some (.int .i64 x10) := hb.cell 10
  have q11 : W.cell? ⟨g, 11, none⟩ = some (.int .i64 x11) := hb.cell 11
  have q12 : W.cell? ⟨g, 12, none⟩ = some (.int .i64 x12) := hb.cell 12
  have q13 : W.cell? ⟨g, 13, none⟩ = some (.int .i64 x13) := hb.cell 13
  obtain ⟨tmps, defers⟩ := a
  simp only at h2 hd
  subst hd
  rw [Array.getD_eq_getD_getElem?] at h2
  refine bodyPost_ret (v := .agg #[.int .i64 x0, .int .i64 x1, .int .i64 x2, .int .i64 x3, .int .u16 x4, .int .u16 x5, .int .i64 x6, .int .i64 x7, .int .i64 x8, .int .i64 x9, .int .i64 x10, .int .i64 x11, .int .i64 x12, .int .i64 x13]) ?_ rfl hq
  simp [results, Try.results23, go_sem, h2, q0, q1, q2, q3, q4, q5, q6, q7, q8, q9, q10, q11, q12, q13]
set_option maxRecDepth 100000 in
set_option maxHeartbeats 800000 in
theorem rask_no1 (r : Nat) (me : Int) (s : St) (tt loc : Int) (w : World) (h : Rd w r me s) (hs : s.waiting = true) :
    Calls Try.prog 23 #[.pointer (some ⟨r, 0, none⟩), .int .i64 tt, .int .i64 loc] w fun e w' => e = .returned (.agg #[.int .i64 0, .int .i64 0, .int .i64 0, .int .i64 0, .int .u16 0, .int .u16 0, .int .i64 0, .int .i64 0, .int .i64 0, .int .i64 0, .int .i64 0, .int .i64 0, .int .i64 0, .int .i64 0]) ∧ Below w.heap.size w w' := by
  obtain ⟨t1, t2, wt, t4, t5, rs⟩ := s
  simp only at hs
  subst hs
  have hbs : r < w.heap.size := h.lt
  have H := Lib.hid h
  have HX := Lib.hid (h.alloc (.cells #[.int .i64 0, .int .i64 0, .int .i64 0, .int .i64 0, .int .u16 0, .int .u16 0, .int .i64 0, .int .i64 0, .int .i64 0, .int .i64 0, .int .i64 0, .int .i64 0, .int .i64 0, .int .i64 0] 41))
  have hx := cells7 HX.out
  obtain ⟨⟨c0, c1, c2, c3, c4, c5, c6⟩, f0, f1, f2, f3, f4, f5, f6⟩ := hx
  clear h
  go_enter Try.func23, Try.ntmps23
  go_wp2
  exact ret_rask _ _ _ w.heap.size 41 0 0 0 0 0 0 0 0 0 0 0 0 0 0 rfl rfl ((Blk.new _ _ _).alloc _) ⟨rfl, ((Below.refl _ _).alloc (Nat.le_refl _) _).alloc (by simp) _⟩
set_option maxRecDepth 100000 in
set_option maxHeartbeats 800000 in
theorem rask_no2 (r : Nat) (me : Int) (s : St) (tt loc : Int) (w : World) (h : Rd w r me s) (hs : s.waiting = false) (hr : 0 < s.rest) :
    Calls Try.prog 23 #[.pointer (some ⟨r, 0, none⟩), .int .i64 tt, .int .i64 loc] w fun e w' => e = .returned (.agg #[.int .i64 0, .int .i64 0, .int .i64 0, .int .i64 0, .int .u16 0, .int .u16 0, .int .i64 0, .int .i64 0, .int .i64 0, .int .i64 0, .int .i64 0, .int .i64 0, .int .i64 0, .int .i64 0]) ∧ Below w.heap.size w w' := by
  obtain ⟨t1, t2, wt, t4, t5, rs⟩ := s
  simp only at hs hr
  subst hs
  have hbs : r < w.heap.size := h.lt
  have H := Lib.hid h
  have HX := Lib.hid (h.alloc (.cells #[.int .i64 0, .int .i64 0, .int .i64 0, .int .i64 0, .int .u16 0, .int .u16 0, .int .i64 0, .int .i64 0, .int .i64 0, .int .i64 0, .int .i64 0, .int .i64 0, .int .i64 0, .int .i64 0] 41))
  have hx := cells7 HX.out
  obtain ⟨⟨c0, c1, c2, c3, c4, c5, c6⟩, f0, f1, f2, f3, f4, f5, f6⟩ := hx
  clear h
  go_enter Try.func23, Try.ntmps23
  go_wp2
  exact ret_rask _ _ _ w.heap.size 41 0 0 0 0 0 0 0 0 0 0 0 0 0 0 rfl rfl ((Blk.new _ _ _).alloc _) ⟨rfl, ((Below.refl _ _).alloc (Nat.le_refl _) _).alloc (by simp) _⟩
set_option maxRecDepth 100000 in
set_option maxHeartbeats 800000 in
theorem rask_no3 (r : Nat) (me : Int) (s : St) (tt loc : Int) (w : World) (h : Rd w r me s) (hs : s.waiting = false) (hr : ¬ 0 < s.rest) (hm : (tt == me) = true) :
    Calls Try.prog 23 #[.pointer (some ⟨r, 0, none⟩), .int .i64 tt, .int .i64 loc] w fun e w' => e = .returned (.agg #[.int .i64 0, .int .i64 0, .int .i64 0, .int .i64 0, .int .u16 0, .int .u16 0, .int .i64 0, .int .i64 0, .int .i64 0, .int .i64 0, .int .i64 0, .int .i64 0, .int .i64 0, .int .i64 0]) ∧ Below w.heap.size w w' := by
  obtain ⟨t1, t2, wt, t4, t5, rs⟩ := s
  simp only at hs hr
  subst hs
  have hbs : r < w.heap.size := h.lt
  have H := Lib.hid h
  have HX := Lib.hid (h.alloc (.cells #[.int .i64 0, .int .i64 0, .int .i64 0, .int .i64 0, .int .u16 0, .int .u16 0, .int .i64 0, .int .i64 0, .int .i64 0, .int .i64 0, .int .i64 0, .int .i64 0, .int .i64 0, .int .i64 0] 41))
  have hx := cells7 HX.out
  obtain ⟨⟨c0, c1, c2, c3, c4, c5, c6⟩, f0, f1, f2, f3, f4, f5, f6⟩ := hx
  clear h
  go_enter Try.func23, Try.ntmps23
  go_wp2
  exact ret_rask _ _ _ w.heap.size 41 0 0 0 0 0 0 0 0 0 0 0 0 0 0 rfl rfl ((Blk.new _ _ _).alloc _) ⟨rfl, ((Below.refl _ _).alloc (Nat.le_refl _) _).alloc (by simp) _⟩
set_option maxRecDepth 100000 in
set_option maxHeartbeats 800000 in
theorem rask_no4 (r : Nat) (me : Int) (s : St) (tt loc : Int) (w : World) (h : Rd w r me s) (hs : s.waiting = false) (hr : ¬ 0 < s.rest) (hm : (tt == me) = false) (hg : okPulse me tt loc = false) :
    Calls Try.prog 23 #[.pointer (some ⟨r, 0, none⟩), .int .i64 tt, .int .i64 loc] w fun e w' => e = .returned (.agg #[.int .i64 0, .int .i64 0, .int .i64 0, .int .i64 0, .int .u16 0, .int .u16 0, .int .i64 0, .int .i64 0, .int .i64 0, .int .i64 0, .int .i64 0, .int .i64 0, .int .i64 0, .int .i64 0]) ∧ Below w.heap.size w w' := by
  obtain ⟨t1, t2, wt, t4, t5, rs⟩ := s
  simp only at hs hr
  subst hs
  have HX2 := Lib.hid ((h.alloc (.cells #[.int .i64 0, .int .i64 0, .int .i64 0, .int .i64 0, .int .u16 0, .int .u16 0, .int .i64 0, .int .i64 0, .int .i64 0, .int .i64 0, .int .i64 0, .int .i64 0, .int .i64 0, .int .i64 0] 41)).alloc (.cells #[.int .i64 4, .int .i64 me, .int .i64 tt, .int .i64 0, .int .u16 0, .int .u16 0, .int .i64 0, .int .i64 0, .int .i64 0, .int .i64 loc, .int .i64 0, .int .i64 0, .int .i64 0, .int .i64 0] 41))
  have HY0 := Lib.hid ((Blk.new w 41 #[.int .i64 0, .int .i64 0, .int .i64 0, .int .i64 0, .int .u16 0, .int .u16 0, .int .i64 0, .int .i64 0, .int .i64 0, .int .i64 0, .int .i64 0, .int .i64 0, .int .i64 0, .int .i64 0]).alloc (.cells #[.int .i64 4, .int .i64 me, .int .i64 tt, .int .i64 0, .int .u16 0, .int .u16 0, .int .i64 0, .int .i64 0, .int .i64 0, .int .i64 loc, .int .i64 0, .int .i64 0, .int .i64 0, .int .i64 0] 41))
  have HZ := Lib.hid (show Blk ((w.alloc (.cells #[.int .i64 0, .int .i64 0, .int .i64 0, .int .i64 0, .int .u16 0, .int .u16 0, .int .i64 0, .int .i64 0, .int .i64 0, .int .i64 0, .int .i64 0, .int .i64 0, .int .i64 0, .int .i64 0] 41)).alloc (.cells #[.int .i64 4, .int .i64 me, .int .i64 tt, .int .i64 0, .int .u16 0, .int .u16 0, .int .i64 0, .int .i64 0, .int .i64 0, .int .i64 loc, .int .i64 0, .int .i64 0, .int .i64 0, .int .i64 0] 41)) (w.heap.size + 1) 41 #[.int .i64 4, .int .i64 me, .int .i64 tt, .int .i64 0, .int .u16 0, .int .u16 0, .int .i64 0, .int .i64 0, .int .i64 0, .int .i64 loc, .int .i64 0, .int .i64 0, .int .i64 0, .int .i64 0] from new_at (by simp))
  have hG := fun w => rgood5_ok me tt loc w
  rw [hg] at hG
  have HG := Lib.hid hG
  clear hG hg
  have hbs : r < w.heap.size := h.lt
  have H := Lib.hid h
  have HX := Lib.hid (h.alloc (.cells #[.int .i64 0, .int .i64 0, .int .i64 0, .int .i64 0, .int .u16 0, .int .u16 0, .int .i64 0, .int .i64 0, .int .i64 0, .int .i64 0, .int .i64 0, .int .i64 0, .int .i64 0, .int .i64 0] 41))
  have hx := cells7 HX.out
  obtain ⟨⟨c0, c1, c2, c3, c4, c5, c6⟩, f0, f1, f2, f3, f4, f5, f6⟩ := hx
  clear h
  go_enter Try.func23, Try.ntmps23
  go_wp2_with (go_at_call 30; (with_reducible refine Calls.mono (HG.out _) ?_); rintro e w3 ⟨rfl, hb⟩; have HB := Lib.hid hb; have hz := hb.size; have HY := Lib.hid (HY0.out.keeps hb); have HX3 := Lib.hid (HX2.out.keeps hb); have HZ3 := Lib.hid (HZ.out.keeps hb); have hx := cells7 HX3.out; obtain ⟨⟨c0, c1, c2, c3, c4, c5, c6⟩, f0, f1, f2, f3, f4, f5, f6⟩ := hx; have hy := cells14 HY.out; obtain ⟨y0, y1, y2, y3, y4, y5, y6, y7, y8, y9, y10, y11, y12, y13, y14, y15, y16, y17, y18, y19, y20, y21, y22, y23, y24, y25, y26, y27⟩ := hy; have hv := cells14 HZ3.out; obtain ⟨v0, v1, v2, v3, v4, v5, v6, v7, v8, v9, v10, v11, v12, v13, v14, v15, v16, v17, v18, v19, v20, v21, v22, v23, v24, v25, v26, v27⟩ := hv; clear hb)
  go_wp2
  have h1 := HB.out
  refine ret_rask _ _ _ w.heap.size 41 0 0 0 0 0 0 0 0 0 0 0 0 0 0 rfl rfl ?_ ⟨rfl, ?_⟩
  · have h2 := HY.out
    ((repeat (first | (with_reducible assumption) | (with_reducible apply Blk.drew) | (with_reducible apply set_at2) | ((with_reducible apply set_far); (focus omega)) | (with_reducible apply Blk.alloc))); all_goals rfl)
  · have h2 : Below w.heap.size w w3 := (((Below.refl _ _).alloc (Nat.le_refl _) _).alloc (by simp) _).trans (h1.mono (by simp; omega))
    (repeat (first | (with_reducible assumption) | (with_reducible apply below_drew) | ((with_reducible apply below_set); (focus omega)) | ((with_reducible apply below_at); (focus ((try simp only [size_set, size_drew, World.size_alloc]); omega)))))
set_option maxRecDepth 100000 in
set_option maxHeartbeats 800000 in
theorem rask_yes (r : Nat) (me : Int) (s : St) (tt loc : Int) (w : World) (h : Rd w r me s) (hs : s.waiting = false) (hr : ¬ 0 < s.rest) (hm : (tt == me) = false) (hg : okPulse me tt loc = true) :
    Calls Try.prog 23 #[.pointer (some ⟨r, 0, none⟩), .int .i64 tt, .int .i64 loc] w fun e w' => e = .returned (.agg #[.int .i64 4, .int .i64 me, .int .i64 tt, .int .i64 0, .int .u16 0, .int .u16 0, .int .i64 0, .int .i64 0, .int .i64 0, .int .i64 loc, .int .i64 0, .int .i64 0, .int .i64 0, .int .i64 0]) ∧ Rd w' r me (asked s tt loc) ∧ Kp (fun k => k = r) w w' := by
  obtain ⟨t1, t2, wt, t4, t5, rs⟩ := s
  simp only at hs hr
  subst hs
  have HX2 := Lib.hid ((h.alloc (.cells #[.int .i64 0, .int .i64 0, .int .i64 0, .int .i64 0, .int .u16 0, .int .u16 0, .int .i64 0, .int .i64 0, .int .i64 0, .int .i64 0, .int .i64 0, .int .i64 0, .int .i64 0, .int .i64 0] 41)).alloc (.cells #[.int .i64 4, .int .i64 me, .int .i64 tt, .int .i64 0, .int .u16 0, .int .u16 0, .int .i64 0, .int .i64 0, .int .i64 0, .int .i64 loc, .int .i64 0, .int .i64 0, .int .i64 0, .int .i64 0] 41))
  have HY0 := Lib.hid ((Blk.new w 41 #[.int .i64 0, .int .i64 0, .int .i64 0, .int .i64 0, .int .u16 0, .int .u16 0, .int .i64 0, .int .i64 0, .int .i64 0, .int .i64 0, .int .i64 0, .int .i64 0, .int .i64 0, .int .i64 0]).alloc (.cells #[.int .i64 4, .int .i64 me, .int .i64 tt, .int .i64 0, .int .u16 0, .int .u16 0, .int .i64 0, .int .i64 0, .int .i64 0, .int .i64 loc, .int .i64 0, .int .i64 0, .int .i64 0, .int .i64 0] 41))
  have HZ := Lib.hid (show Blk ((w.alloc (.cells #[.int .i64 0, .int .i64 0, .int .i64 0, .int .i64 0, .int .u16 0, .int .u16 0, .int .i64 0, .int .i64 0, .int .i64 0, .int .i64 0, .int .i64 0, .int .i64 0, .int .i64 0, .int .i64 0] 41)).alloc (.cells #[.int .i64 4, .int .i64 me, .int .i64 tt, .int .i64 0, .int .u16 0, .int .u16 0, .int .i64 0, .int .i64 0, .int .i64 0, .int .i64 loc, .int .i64 0, .int .i64 0, .int .i64 0, .int .i64 0] 41)) (w.heap.size + 1) 41 #[.int .i64 4, .int .i64 me, .int .i64 tt, .int .i64 0, .int .u16 0, .int .u16 0, .int .i64 0, .int .i64 0, .int .i64 0, .int .i64 loc, .int .i64 0, .int .i64 0, .int .i64 0, .int .i64 0] from new_at (by simp))
  have hG := fun w => rgood5_ok me tt loc w
  rw [hg] at hG
  have HG := Lib.hid hG
  clear hG hg
  have hbs : r < w.heap.size := h.lt
  have H := Lib.hid h
  have HX := Lib.hid (h.alloc (.cells #[.int .i64 0, .int .i64 0, .int .i64 0, .int .i64 0, .int .u16 0, .int .u16 0, .int .i64 0, .int .i64 0, .int .i64 0, .int .i64 0, .int .i64 0, .int .i64 0, .int .i64 0, .int .i64 0] 41))
  have hx := cells7 HX.out
  obtain ⟨⟨c0, c1, c2, c3, c4, c5, c6⟩, f0, f1, f2, f3, f4, f5, f6⟩ := hx
  clear h
  go_enter Try.func23, Try.ntmps23
  go_wp2_with (go_at_call 30; (with_reducible refine Calls.mono (HG.out _) ?_); rintro e w3 ⟨rfl, hb⟩; have HB := Lib.hid hb; have hz := hb.size; have HY := Lib.hid (HY0.out.keeps hb); have HX3 := Lib.hid (HX2.out.keeps hb); have HZ3 := Lib.hid (HZ.out.keeps hb); have hx := cells7 HX3.out; obtain ⟨⟨c0, c1, c2, c3, c4, c5, c6⟩, f0, f1, f2, f3, f4, f5, f6⟩ := hx; have hy := cells14 HY.out; obtain ⟨y0, y1, y2, y3, y4, y5, y6, y7, y8, y9, y10, y11, y12, y13, y14, y15, y16, y17, y18, y19, y20, y21, y22, y23, y24, y25, y26, y27⟩ := hy; have hv := cells14 HZ3.out; obtain ⟨v0, v1, v2, v3, v4, v5, v6, v7, v8, v9, v10, v11, v12, v13, v14, v15, v16, v17, v18, v19, v20, v21, v22, v23, v24, v25, v26, v27⟩ := hv; clear hb)
  go_wp2
  have h1 := HB.out
  have hz2 : w.heap.size + 2 ≤ w3.heap.size := by simpa using hz
  refine ret_rask _ _ _ w.heap.size 41 4 me tt 0 0 0 0 0 0 loc 0 0 0 0 rfl rfl ?_ ⟨rfl, ?_, ?_⟩
  · have h2 := HY.out
    ((repeat (first | (with_reducible assumption) | (with_reducible apply Blk.drew) | (with_reducible apply set_at2) | ((with_reducible apply set_far); (focus omega)) | (with_reducible apply Blk.alloc))); all_goals rfl)
  · have h2 := HX3.out
    ((repeat (first | (with_reducible assumption) | (with_reducible apply Blk.drew) | (with_reducible apply set_at2) | ((with_reducible apply set_far); (focus omega)) | (with_reducible apply Blk.alloc))); all_goals rfl)
  · have h2 : Kp (fun k => k = r) w w3 := (((Kp.refl _ w).alloc _).alloc _).below h1
    (repeat (first | (with_reducible assumption) | (with_reducible apply Kp.drew) | ((with_reducible apply kp_set); (focus (first | exact .inl rfl | (right; (try simp only [size_set, size_drew, World.size_alloc]); omega)))) | (with_reducible apply Kp.alloc) | (with_reducible exact Kp.refl _ _)))
end Go.Proofs.Ythnnejflgbminab.Pr
