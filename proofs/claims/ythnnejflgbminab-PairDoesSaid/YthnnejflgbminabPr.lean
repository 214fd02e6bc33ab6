/- The walks of pair's functions. -/
import Derived.Test.YthnnejflgbminabTm
import Derived.Test.YthnnejflgbminabFrm
namespace Go.Proofs.Ythnnejflgbminab.Pr
open Go.RowKit Go.Proofs.Ythnnejflgbminab.Bk Go.Proofs.Ythnnejflgbminab.Rw Go.Proofs.Ythnnejflgbminab.Ow Go.Proofs.Ythnnejflgbminab.Kp Go.Proofs.Ythnnejflgbminab.Sq Go.Proofs.Ythnnejflgbminab.Ck Go.Proofs.Ythnnejflgbminab.Tm Go.Proofs.Ythnnejflgbminab.Frm

/-- A node's state. -/
structure St where
  to : Int
  sent : Int
  waiting : Bool
  waited : Int
  tries : Int
  rest : Int
abbrev St.cs (me : Int) (s : St) : Array Value := #[.int .i64 me, .int .i64 s.to, .int .i64 s.sent, .bool s.waiting, .int .i64 s.waited, .int .i64 s.tries, .int .i64 s.rest]
def st0 : St := ⟨0, 0, false, 0, 0, 0⟩
/-- A node at block p. -/
abbrev Pd (w : World) (p : Nat) (me : Int) (s : St) : Prop := Blk w p 68 (s.cs me)

theorem new_ok (me : Int) (w : World) (h0 : 0 ≤ me) (h1 : me ≤ 63) :
    Calls Try.prog 15 #[.int .i64 me] w fun e w' => e = .returned (.tuple #[.pointer (some ⟨w.heap.size, 0, none⟩), .int .i64 0]) ∧ w' = w.alloc (.cells (st0.cs me) 68) := by
  go_enter Try.func15, Try.ntmps15
  go_wp2
  go_ret2
  exact ⟨rfl, rfl⟩
theorem new_no (me : Int) (w : World) (h : me < 0 ∨ 63 < me) :
    Calls Try.prog 15 #[.int .i64 me] w fun e w' => e = .returned (.tuple #[.pointer none, .int .i64 1]) ∧ w = w' := by
  by_cases h0 : me < 0
  · clear h
    go_enter Try.func15, Try.ntmps15
    go_wp2
    go_ret2
    exact ⟨rfl, rfl⟩
  · have h2 : 63 < me := by omega
    clear h
    go_enter Try.func15, Try.ntmps15
    go_wp2
    go_ret2
    exact ⟨rfl, rfl⟩
theorem waits_ok (p : Nat) (me : Int) (s : St) (w : World) (h : Pd w p me s) : Calls Try.prog 20 #[.pointer (some ⟨p, 0, none⟩)] w fun e w' => e = .returned (.bool s.waiting) ∧ w = w' := by
  have c : w.cell? ⟨p, 3, none⟩ = some (.bool s.waiting) := h.cell 3
  clear h
  go_enter Try.func20, Try.ntmps20
  go_wp2
  go_ret
  exact ⟨rfl, rfl⟩
theorem waits_nil (w : World) : Calls Try.prog 20 #[.pointer none] w fun e w' => e = .returned (.bool false) ∧ w = w' := by
  go_enter Try.func20, Try.ntmps20
  go_wp2
  go_ret
  exact ⟨rfl, rfl⟩
theorem rests_ok (p : Nat) (me : Int) (s : St) (w : World) (h : Pd w p me s) : Calls Try.prog 21 #[.pointer (some ⟨p, 0, none⟩)] w fun e w' => e = .returned (.int .i64 s.rest) ∧ w = w' := by
  have c : w.cell? ⟨p, 6, none⟩ = some (.int .i64 s.rest) := h.cell 6
  clear h
  go_enter Try.func21, Try.ntmps21
  go_wp2
  go_ret
  exact ⟨rfl, rfl⟩
theorem rests_nil (w : World) : Calls Try.prog 21 #[.pointer none] w fun e w' => e = .returned (.int .i64 0) ∧ w = w' := by
  go_enter Try.func21, Try.ntmps21
  go_wp2
  go_ret
  exact ⟨rfl, rfl⟩
theorem boot_nil (w : World) : Calls Try.prog 22 #[.pointer none] w fun e w' => e = .returned (.tuple #[]) ∧ w = w' := by
  go_enter Try.func22, Try.ntmps22
  go_wp2
  go_end0
  exact ⟨rfl, rfl⟩
theorem cells7 {w : World} {b : Nat} {t : TypeId} {x0 x1 x2 x3 x4 x5 x6 : Value} (h : Blk w b t #[x0, x1, x2, x3, x4, x5, x6]) : (w.cell? ⟨b, 0, none⟩ = some x0 ∧ w.cell? ⟨b, 1, none⟩ = some x1 ∧ w.cell? ⟨b, 2, none⟩ = some x2 ∧ w.cell? ⟨b, 3, none⟩ = some x3 ∧ w.cell? ⟨b, 4, none⟩ = some x4 ∧ w.cell? ⟨b, 5, none⟩ = some x5 ∧ w.cell? ⟨b, 6, none⟩ = some x6) ∧ w.frozen? ⟨b, 0, none⟩ = false ∧ w.frozen? ⟨b, 1, none⟩ = false ∧ w.frozen? ⟨b, 2, none⟩ = false ∧ w.frozen? ⟨b, 3, none⟩ = false ∧ w.frozen? ⟨b, 4, none⟩ = false ∧ w.frozen? ⟨b, 5, none⟩ = false ∧ w.frozen? ⟨b, 6, none⟩ = false :=
  ⟨⟨h.cell 0, h.cell 1, h.cell 2, h.cell 3, h.cell 4, h.cell 5, h.cell 6⟩, h.frozen 0, h.frozen 1, h.frozen 2, h.frozen 3, h.frozen 4, h.frozen 5, h.frozen 6⟩
theorem cells3 {w : World} {b : Nat} {t : TypeId} {x0 x1 x2 : Value} (h : Blk w b t #[x0, x1, x2]) : w.cell? ⟨b, 0, none⟩ = some x0 ∧ w.cell? ⟨b, 1, none⟩ = some x1 ∧ w.cell? ⟨b, 2, none⟩ = some x2 ∧ w.frozen? ⟨b, 0, none⟩ = false ∧ w.frozen? ⟨b, 1, none⟩ = false ∧ w.frozen? ⟨b, 2, none⟩ = false := ⟨h.cell 0, h.cell 1, h.cell 2, h.frozen 0, h.frozen 1, h.frozen 2⟩
theorem boot_ok (p : Nat) (me : Int) (s : St) (w : World) (h : Pd w p me s) : Calls Try.prog 22 #[.pointer (some ⟨p, 0, none⟩)] w fun e w' => e = .returned (.tuple #[]) ∧ Pd w' p me st0 ∧ Kp (fun k => k = p) w w' := by
  have hx := cells7 h
  obtain ⟨⟨c0, c1, c2, c3, c4, c5, c6⟩, f0, f1, f2, f3, f4, f5, f6⟩ := hx
  have H := Lib.hid h
  clear h
  go_enter Try.func22, Try.ntmps22
  go_wp2
  go_end0
  have h := H.out
  refine ⟨rfl, ?_, ?_⟩
  · ((repeat (first | (with_reducible assumption) | (with_reducible apply Blk.drew) | (with_reducible apply set_at) | ((with_reducible apply set_far); (focus omega)) | (with_reducible apply Blk.alloc))); all_goals rfl)
  · (repeat (first | (with_reducible assumption) | (with_reducible apply Kp.drew) | ((with_reducible apply kp_set); (focus (first | exact .inl rfl | (right; (try simp only [size_set, size_drew, World.size_alloc]); omega)))) | (with_reducible apply Kp.alloc) | (with_reducible exact Kp.refl _ _)))

def okPulse (a b c : Int) : Bool := ([⟨1, a, 63⟩, ⟨1, b, 63⟩, ⟨8, c, 1125899906842624⟩] : List Fld).all Fld.ok
theorem okPulse_iff (a b c : Int) : okPulse a b c = true ↔ (0 ≤ a ∧ a ≤ 63) ∧ (0 ≤ b ∧ b ≤ 63) ∧ 0 ≤ c ∧ c ≤ 1125899906842624 := by
  simp [okPulse, Fld.ok]
/-- Whether somebody is asked. -/
def askOk (me : Int) (s : St) (to loc : Int) : Bool := !(s.waiting || decide (0 < s.rest) || to == me || !okPulse me to loc)
def asked (s : St) (to loc : Int) : St := { s with to := to, sent := loc, waiting := true, waited := 0 }

theorem ret_ask (Q : Ending → World → Prop) (a : Act) (W : World) (g : Nat) (t : TypeId) (x y z : Int) (ok : Bool) (h2 : a.tmps.getD 6 undef = .pointer (some ⟨g, 0, none⟩)) (h3 : a.tmps.getD 7 undef = .bool ok) (hd : a.defers = [])
    (hb : Blk W g t #[.int .i64 x, .int .i64 y, .int .i64 z]) (hq : Q (.returned (.tuple #[.agg #[.int .i64 x, .int .i64 y, .int .i64 z], .bool ok])) W) : bodyPost Try.prog Try.f16 Q .ret a W := by
  have q0 : W.cell? ⟨g, 0, none⟩ = some (.int .i64 x) := hb.cell 0
  have q1 : W.cell? ⟨g, 1, none⟩ = some (.int .i64 y) := hb.cell 1
  have q2 : W.cell? ⟨g, 2, none⟩ = some (.int .i64 z) := hb.cell 2
  obtain ⟨tmps, defers⟩ := a
  simp only at h2 h3 hd
  subst hd
  rw [Array.getD_eq_getD_getElem?] at h2 h3
  refine bodyPost_ret (v := .tuple #[.agg #[.int .i64 x, .int .i64 y, .int .i64 z], .bool ok]) ?_ rfl hq
  simp [results, Try.results16, go_sem, h2, h3, q0, q1, q2]
theorem ask_nil (a b : Int) (w : World) : Calls Try.prog 16 #[.pointer none, .int .i64 a, .int .i64 b] w fun e w' => e = .returned (.tuple #[.agg #[.int .i64 0, .int .i64 0, .int .i64 0], .bool false]) ∧ Below w.heap.size w w' := by
  go_enter Try.func16, Try.ntmps16
  go_wp2
  exact ret_ask _ _ _ w.heap.size 36 0 0 0 false rfl rfl rfl (Blk.new _ _ _) ⟨rfl, (Below.refl _ _).alloc (Nat.le_refl _) _⟩
theorem ask_no1 (p : Nat) (me : Int) (s : St) (to loc : Int) (w : World) (h : Pd w p me s) (hs : s.waiting = true) :
    Calls Try.prog 16 #[.pointer (some ⟨p, 0, none⟩), .int .i64 to, .int .i64 loc] w fun e w' => e = .returned (.tuple #[.agg #[.int .i64 0, .int .i64 0, .int .i64 0], .bool false]) ∧ Below w.heap.size w w' := by
  obtain ⟨t1, t2, wt, t4, t5, rs⟩ := s
  simp only at hs
  subst hs
  have hbs : p < w.heap.size := h.lt
  have H := Lib.hid h
  have HX := Lib.hid (h.alloc (.cells #[.int .i64 0, .int .i64 0, .int .i64 0] 36))
  have hx := cells7 HX.out
  obtain ⟨⟨c0, c1, c2, c3, c4, c5, c6⟩, f0, f1, f2, f3, f4, f5, f6⟩ := hx
  clear h
  go_enter Try.func16, Try.ntmps16
  go_wp2
  exact ret_ask _ _ _ w.heap.size 36 0 0 0 false rfl rfl rfl ((Blk.new _ _ _).alloc _) ⟨rfl, ((Below.refl _ _).alloc (Nat.le_refl _) _).alloc (by simp) _⟩
theorem ask_no2 (p : Nat) (me : Int) (s : St) (to loc : Int) (w : World) (h : Pd w p me s) (hs : s.waiting = false) (hr : 0 < s.rest) :
    Calls Try.prog 16 #[.pointer (some ⟨p, 0, none⟩), .int .i64 to, .int .i64 loc] w fun e w' => e = .returned (.tuple #[.agg #[.int .i64 0, .int .i64 0, .int .i64 0], .bool false]) ∧ Below w.heap.size w w' := by
  obtain ⟨t1, t2, wt, t4, t5, rs⟩ := s
  simp only at hs hr
  subst hs
  have hbs : p < w.heap.size := h.lt
  have H := Lib.hid h
  have HX := Lib.hid (h.alloc (.cells #[.int .i64 0, .int .i64 0, .int .i64 0] 36))
  have hx := cells7 HX.out
  obtain ⟨⟨c0, c1, c2, c3, c4, c5, c6⟩, f0, f1, f2, f3, f4, f5, f6⟩ := hx
  clear h
  go_enter Try.func16, Try.ntmps16
  go_wp2
  exact ret_ask _ _ _ w.heap.size 36 0 0 0 false rfl rfl rfl ((Blk.new _ _ _).alloc _) ⟨rfl, ((Below.refl _ _).alloc (Nat.le_refl _) _).alloc (by simp) _⟩
theorem ask_no3 (p : Nat) (me : Int) (s : St) (to loc : Int) (w : World) (h : Pd w p me s) (hs : s.waiting = false) (hr : ¬ 0 < s.rest) (hm : (to == me) = true) :
    Calls Try.prog 16 #[.pointer (some ⟨p, 0, none⟩), .int .i64 to, .int .i64 loc] w fun e w' => e = .returned (.tuple #[.agg #[.int .i64 0, .int .i64 0, .int .i64 0], .bool false]) ∧ Below w.heap.size w w' := by
  obtain ⟨t1, t2, wt, t4, t5, rs⟩ := s
  simp only at hs hr
  subst hs
  have hbs : p < w.heap.size := h.lt
  have H := Lib.hid h
  have HX := Lib.hid (h.alloc (.cells #[.int .i64 0, .int .i64 0, .int .i64 0] 36))
  have hx := cells7 HX.out
  obtain ⟨⟨c0, c1, c2, c3, c4, c5, c6⟩, f0, f1, f2, f3, f4, f5, f6⟩ := hx
  clear h
  go_enter Try.func16, Try.ntmps16
  go_wp2
  exact ret_ask _ _ _ w.heap.size 36 0 0 0 false rfl rfl rfl ((Blk.new _ _ _).alloc _) ⟨rfl, ((Below.refl _ _).alloc (Nat.le_refl _) _).alloc (by simp) _⟩
theorem ask_no4 (p : Nat) (me : Int) (s : St) (to loc : Int) (w : World) (h : Pd w p me s) (hs : s.waiting = false) (hr : ¬ 0 < s.rest) (hm : (to == me) = false) (hg : okPulse me to loc = false) :
    Calls Try.prog 16 #[.pointer (some ⟨p, 0, none⟩), .int .i64 to, .int .i64 loc] w fun e w' => e = .returned (.tuple #[.agg #[.int .i64 0, .int .i64 0, .int .i64 0], .bool false]) ∧ Below w.heap.size w w' := by
  obtain ⟨t1, t2, wt, t4, t5, rs⟩ := s
  simp only at hs hr
  subst hs
  have HX2 := Lib.hid ((h.alloc (.cells #[.int .i64 0, .int .i64 0, .int .i64 0] 36)).alloc (.cells #[.int .i64 me, .int .i64 to, .int .i64 loc] 36))
  have HY0 := Lib.hid ((Blk.new w 36 #[.int .i64 0, .int .i64 0, .int .i64 0]).alloc (.cells #[.int .i64 me, .int .i64 to, .int .i64 loc] 36))
  have HZ := Lib.hid (show Blk ((w.alloc (.cells #[.int .i64 0, .int .i64 0, .int .i64 0] 36)).alloc (.cells #[.int .i64 me, .int .i64 to, .int .i64 loc] 36)) (w.heap.size + 1) 36 #[.int .i64 me, .int .i64 to, .int .i64 loc] from new_at (by simp))
  have hG := fun w => good_pulse me to loc w
  rw [show ([⟨1, me, 63⟩, ⟨1, to, 63⟩, ⟨8, loc, 1125899906842624⟩] : List Fld).all Fld.ok = false from hg] at hG
  have HG := Lib.hid hG
  clear hG hg
  have hbs : p < w.heap.size := h.lt
  have H := Lib.hid h
  have HX := Lib.hid (h.alloc (.cells #[.int .i64 0, .int .i64 0, .int .i64 0] 36))
  have hx := cells7 HX.out
  obtain ⟨⟨c0, c1, c2, c3, c4, c5, c6⟩, f0, f1, f2, f3, f4, f5, f6⟩ := hx
  clear h
  go_enter Try.func16, Try.ntmps16
  go_wp2_with (go_at_call 28; (with_reducible refine Calls.mono (HG.out _) ?_); rintro e w3 ⟨rfl, hb⟩; have HB := Lib.hid hb; have hz := hb.size; have HY := Lib.hid (HY0.out.keeps hb); have HX3 := Lib.hid (HX2.out.keeps hb); have HZ3 := Lib.hid (HZ.out.keeps hb); have hx := cells7 HX3.out; obtain ⟨⟨c0, c1, c2, c3, c4, c5, c6⟩, f0, f1, f2, f3, f4, f5, f6⟩ := hx; have hy := cells3 HY.out; obtain ⟨y0, y1, y2, y3, y4, y5⟩ := hy; have hv := cells3 HZ3.out; obtain ⟨v0, v1, v2, v3, v4, v5⟩ := hv; clear hb)
  go_wp2
  have h1 := HB.out
  refine ret_ask _ _ _ w.heap.size 36 0 0 0 false rfl rfl rfl ?_ ⟨rfl, ?_⟩
  · have h2 := HY.out
    ((repeat (first | (with_reducible assumption) | (with_reducible apply Blk.drew) | (with_reducible apply set_at) | ((with_reducible apply set_far); (focus omega)) | (with_reducible apply Blk.alloc))); all_goals rfl)
  · have h2 : Below w.heap.size w w3 := (((Below.refl _ _).alloc (Nat.le_refl _) _).alloc (by simp) _).trans (h1.mono (by simp; omega))
    (repeat (first | (with_reducible assumption) | (with_reducible apply below_drew) | ((with_reducible apply below_set); (focus omega)) | ((with_reducible apply below_at); (focus ((try simp only [size_set, size_drew, World.size_alloc]); omega)))))
theorem ask_yes (p : Nat) (me : Int) (s : St) (to loc : Int) (w : World) (h : Pd w p me s) (hs : s.waiting = false) (hr : ¬ 0 < s.rest) (hm : (to == me) = false) (hg : okPulse me to loc = true) :
    Calls Try.prog 16 #[.pointer (some ⟨p, 0, none⟩), .int .i64 to, .int .i64 loc] w fun e w' => e = .returned (.tuple #[.agg #[.int .i64 me, .int .i64 to, .int .i64 loc], .bool true]) ∧ Pd w' p me (asked s to loc) ∧ Kp (fun k => k = p) w w' := by
  obtain ⟨t1, t2, wt, t4, t5, rs⟩ := s
  simp only at hs hr
  subst hs
  have HX2 := Lib.hid ((h.alloc (.cells #[.int .i64 0, .int .i64 0, .int .i64 0] 36)).alloc (.cells #[.int .i64 me, .int .i64 to, .int .i64 loc] 36))
  have HY0 := Lib.hid ((Blk.new w 36 #[.int .i64 0, .int .i64 0, .int .i64 0]).alloc (.cells #[.int .i64 me, .int .i64 to, .int .i64 loc] 36))
  have HZ := Lib.hid (show Blk ((w.alloc (.cells #[.int .i64 0, .int .i64 0, .int .i64 0] 36)).alloc (.cells #[.int .i64 me, .int .i64 to, .int .i64 loc] 36)) (w.heap.size + 1) 36 #[.int .i64 me, .int .i64 to, .int .i64 loc] from new_at (by simp))
  have hG := fun w => good_pulse me to loc w
  rw [show ([⟨1, me, 63⟩, ⟨1, to, 63⟩, ⟨8, loc, 1125899906842624⟩] : List Fld).all Fld.ok = true from hg] at hG
  have HG := Lib.hid hG
  clear hG hg
  have hbs : p < w.heap.size := h.lt
  have H := Lib.hid h
  have HX := Lib.hid (h.alloc (.cells #[.int .i64 0, .int .i64 0, .int .i64 0] 36))
  have hx := cells7 HX.out
  obtain ⟨⟨c0, c1, c2, c3, c4, c5, c6⟩, f0, f1, f2, f3, f4, f5, f6⟩ := hx
  clear h
  go_enter Try.func16, Try.ntmps16
  go_wp2_with (go_at_call 28; (with_reducible refine Calls.mono (HG.out _) ?_); rintro e w3 ⟨rfl, hb⟩; have HB := Lib.hid hb; have hz := hb.size; have HY := Lib.hid (HY0.out.keeps hb); have HX3 := Lib.hid (HX2.out.keeps hb); have HZ3 := Lib.hid (HZ.out.keeps hb); have hx := cells7 HX3.out; obtain ⟨⟨c0, c1, c2, c3, c4, c5, c6⟩, f0, f1, f2, f3, f4, f5, f6⟩ := hx; have hy := cells3 HY.out; obtain ⟨y0, y1, y2, y3, y4, y5⟩ := hy; have hv := cells3 HZ3.out; obtain ⟨v0, v1, v2, v3, v4, v5⟩ := hv; clear hb)
  go_wp2
  have h1 := HB.out
  have hz2 : w.heap.size + 2 ≤ w3.heap.size := by simpa using hz
  refine ret_ask _ _ _ w.heap.size 36 me to loc true rfl rfl rfl ?_ ⟨rfl, ?_, ?_⟩
  · have h2 := HY.out
    ((repeat (first | (with_reducible assumption) | (with_reducible apply Blk.drew) | (with_reducible apply set_at) | ((with_reducible apply set_far); (focus omega)) | (with_reducible apply Blk.alloc))); all_goals rfl)
  · have h2 := HX3.out
    ((repeat (first | (with_reducible assumption) | (with_reducible apply Blk.drew) | (with_reducible apply set_at) | ((with_reducible apply set_far); (focus omega)) | (with_reducible apply Blk.alloc))); all_goals rfl)
  · have h2 : Kp (fun k => k = p) w w3 := (((Kp.refl _ w).alloc _).alloc _).below h1
    (repeat (first | (with_reducible assumption) | (with_reducible apply Kp.drew) | ((with_reducible apply kp_set); (focus (first | exact .inl rfl | (right; (try simp only [size_set, size_drew, World.size_alloc]); omega)))) | (with_reducible apply Kp.alloc) | (with_reducible exact Kp.refl _ _)))
end Go.Proofs.Ythnnejflgbminab.Pr
