/- of, plain: frames as the laws have them. (Written by a small program.) -/
import Derived.Test.YtjkngcpmcmffmaaDc
namespace Go.Proofs.Ytjkngcpmcmffmaa.Pl
open Go.RowKit Go.Proofs.Ytjkngcpmcmffmaa.Bk Go.Proofs.Ytjkngcpmcmffmaa.Rw Go.Proofs.Ytjkngcpmcmffmaa.Ow Go.Proofs.Ytjkngcpmcmffmaa.Kp Go.Proofs.Ytjkngcpmcmffmaa.Sq Go.Proofs.Ytjkngcpmcmffmaa.Octet Go.Proofs.Ytjkngcpmcmffmaa.Fr Go.Proofs.Ytjkngcpmcmffmaa.Pn Go.Proofs.Ytjkngcpmcmffmaa.Crc Go.Proofs.Ytjkngcpmcmffmaa.Cr Go.Proofs.Ytjkngcpmcmffmaa.Gn Go.Proofs.Ytjkngcpmcmffmaa.Kd Go.Proofs.Ytjkngcpmcmffmaa.Dc
/-- A frame of whatever kind, with all fields that there are. -/
structure Pl where
  kind : Int
  from_ : Int
  to_ : Int
  root : Int
  boot : Int
  seq : Int
  hops : Int
  time : Int
  level : Int
  sent : Int
  got : Int
  back : Int
  glob : Int
  tai : Int
def Pl.cs (p : Pl) : Array Value := #[.int .i64 p.kind, .int .i64 p.from_, .int .i64 p.to_, .int .i64 p.root, .int .u16 p.boot, .int .u16 p.seq, .int .i64 p.hops, .int .i64 p.time, .int .i64 p.level, .int .i64 p.sent, .int .i64 p.got, .int .i64 p.back, .int .i64 p.glob, .int .i64 p.tai]
def Pl.v (p : Pl) : Value := .agg p.cs
/-- The fields of a kind. -/
def nums (p : Pl) : Nat → List Int
  | 1 => [p.from_, p.root, p.boot, p.seq, p.hops, p.time]
  | 2 => [p.from_, p.level]
  | 3 => [p.from_]
  | 4 => [p.from_, p.to_, p.sent]
  | 5 => [p.from_, p.to_, p.sent, p.got, p.back, p.root, p.boot, p.hops]
  | 6 => [p.from_, p.seq, p.root, p.boot, p.glob, p.tai]
  | _ => []
def ofv (p : Pl) : Value := if 1 ≤ p.kind ∧ p.kind ≤ 6 then frm p.kind.toNat (nums p p.kind.toNat) else .nilIface
def pl0 : Pl := ⟨0, 0, 0, 0, 0, 0, 0, 0, 0, 0, 0, 0, 0, 0⟩
/-- As the laws have it. -/
def pln : Nat → List Int → Pl
  | 1, [a0, a1, a2, a3, a4, a5] => { pl0 with kind := 1, from_ := a0, root := a1, boot := a2, seq := a3, hops := a4, time := a5 }
  | 2, [a0, a1] => { pl0 with kind := 2, from_ := a0, level := a1 }
  | 3, [a0] => { pl0 with kind := 3, from_ := a0 }
  | 4, [a0, a1, a2] => { pl0 with kind := 4, from_ := a0, to_ := a1, sent := a2 }
  | 5, [a0, a1, a2, a3, a4, a5, a6, a7] => { pl0 with kind := 5, from_ := a0, to_ := a1, sent := a2, got := a3, back := a4, root := a5, boot := a6, hops := a7 }
  | 6, [a0, a1, a2, a3, a4, a5] => { pl0 with kind := 6, from_ := a0, seq := a1, root := a2, boot := a3, glob := a4, tai := a5 }
  | _, _ => pl0
set_option maxRecDepth 100000 in
set_option maxHeartbeats 8000000 in
theorem of_ok (p : Pl) (w : World) : Calls Try.prog 14 #[p.v] w fun e w' => e = .returned (ofv p) ∧ Below w.heap.size w w' := by
  obtain ⟨kind, from_, to_, root, boot, seq, hops, time, level, sent, got, back, glob, tai⟩ := p
  have hx := Blk.new w 31 (Pl.cs ⟨kind, from_, to_, root, boot, seq, hops, time, level, sent, got, back, glob, tai⟩)
  have HB := Lib.hid ((Below.refl w.heap.size w).alloc (Nat.le_refl _) (.cells (Pl.cs ⟨kind, from_, to_, root, boot, seq, hops, time, level, sent, got, back, glob, tai⟩) 31))
  have c0 : (w.alloc (.cells (Pl.cs ⟨kind, from_, to_, root, boot, seq, hops, time, level, sent, got, back, glob, tai⟩) 31)).cell? ⟨w.heap.size, 0, none⟩ = some (.int .i64 kind) := hx.cell 0
  have c1 : (w.alloc (.cells (Pl.cs ⟨kind, from_, to_, root, boot, seq, hops, time, level, sent, got, back, glob, tai⟩) 31)).cell? ⟨w.heap.size, 1, none⟩ = some (.int .i64 from_) := hx.cell 1
  have c2 : (w.alloc (.cells (Pl.cs ⟨kind, from_, to_, root, boot, seq, hops, time, level, sent, got, back, glob, tai⟩) 31)).cell? ⟨w.heap.size, 2, none⟩ = some (.int .i64 to_) := hx.cell 2
  have c3 : (w.alloc (.cells (Pl.cs ⟨kind, from_, to_, root, boot, seq, hops, time, level, sent, got, back, glob, tai⟩) 31)).cell? ⟨w.heap.size, 3, none⟩ = some (.int .i64 root) := hx.cell 3
  have c4 : (w.alloc (.cells (Pl.cs ⟨kind, from_, to_, root, boot, seq, hops, time, level, sent, got, back, glob, tai⟩) 31)).cell? ⟨w.heap.size, 4, none⟩ = some (.int .u16 boot) := hx.cell 4
  have c5 : (w.alloc (.cells (Pl.cs ⟨kind, from_, to_, root, boot, seq, hops, time, level, sent, got, back, glob, tai⟩) 31)).cell? ⟨w.heap.size, 5, none⟩ = some (.int .u16 seq) := hx.cell 5
  have c6 : (w.alloc (.cells (Pl.cs ⟨kind, from_, to_, root, boot, seq, hops, time, level, sent, got, back, glob, tai⟩) 31)).cell? ⟨w.heap.size, 6, none⟩ = some (.int .i64 hops) := hx.cell 6
  have c7 : (w.alloc (.cells (Pl.cs ⟨kind, from_, to_, root, boot, seq, hops, time, level, sent, got, back, glob, tai⟩) 31)).cell? ⟨w.heap.size, 7, none⟩ = some (.int .i64 time) := hx.cell 7
  have c8 : (w.alloc (.cells (Pl.cs ⟨kind, from_, to_, root, boot, seq, hops, time, level, sent, got, back, glob, tai⟩) 31)).cell? ⟨w.heap.size, 8, none⟩ = some (.int .i64 level) := hx.cell 8
  have c9 : (w.alloc (.cells (Pl.cs ⟨kind, from_, to_, root, boot, seq, hops, time, level, sent, got, back, glob, tai⟩) 31)).cell? ⟨w.heap.size, 9, none⟩ = some (.int .i64 sent) := hx.cell 9
  have c10 : (w.alloc (.cells (Pl.cs ⟨kind, from_, to_, root, boot, seq, hops, time, level, sent, got, back, glob, tai⟩) 31)).cell? ⟨w.heap.size, 10, none⟩ = some (.int .i64 got) := hx.cell 10
  have c11 : (w.alloc (.cells (Pl.cs ⟨kind, from_, to_, root, boot, seq, hops, time, level, sent, got, back, glob, tai⟩) 31)).cell? ⟨w.heap.size, 11, none⟩ = some (.int .i64 back) := hx.cell 11
  have c12 : (w.alloc (.cells (Pl.cs ⟨kind, from_, to_, root, boot, seq, hops, time, level, sent, got, back, glob, tai⟩) 31)).cell? ⟨w.heap.size, 12, none⟩ = some (.int .i64 glob) := hx.cell 12
  have c13 : (w.alloc (.cells (Pl.cs ⟨kind, from_, to_, root, boot, seq, hops, time, level, sent, got, back, glob, tai⟩) 31)).cell? ⟨w.heap.size, 13, none⟩ = some (.int .i64 tai) := hx.cell 13
  unfold Pl.v at *
  unfold Pl.cs at *
  simp only at *
  clear hx
  by_cases h1 : kind = 1
  · subst h1
    go_enter Try.func14, Try.ntmps14
    go_wp2
    go_ret
    exact ⟨rfl, HB.out⟩
  by_cases h2 : kind = 2
  · subst h2
    go_enter Try.func14, Try.ntmps14
    go_wp2
    go_ret
    exact ⟨rfl, HB.out⟩
  by_cases h3 : kind = 3
  · subst h3
    go_enter Try.func14, Try.ntmps14
    go_wp2
    go_ret
    exact ⟨rfl, HB.out⟩
  by_cases h4 : kind = 4
  · subst h4
    go_enter Try.func14, Try.ntmps14
    go_wp2
    go_ret
    exact ⟨rfl, HB.out⟩
  by_cases h5 : kind = 5
  · subst h5
    go_enter Try.func14, Try.ntmps14
    go_wp2
    go_ret
    exact ⟨rfl, HB.out⟩
  by_cases h6 : kind = 6
  · subst h6
    go_enter Try.func14, Try.ntmps14
    go_wp2
    go_ret
    exact ⟨rfl, HB.out⟩
  have hk : ¬ (1 ≤ kind ∧ kind ≤ 6) := by omega
  have q1 : (kind == 1) = false := by simpa using h1
  have q2 : (kind == 2) = false := by simpa using h2
  have q3 : (kind == 3) = false := by simpa using h3
  have q4 : (kind == 4) = false := by simpa using h4
  have q5 : (kind == 5) = false := by simpa using h5
  have q6 : (kind == 6) = false := by simpa using h6
  have HN := Lib.hid (show ofv ⟨kind, from_, to_, root, boot, seq, hops, time, level, sent, got, back, glob, tai⟩ = .nilIface by unfold ofv; rw [if_neg hk])
  clear h1 h2 h3 h4 h5 h6 hk
  go_enter Try.func14, Try.ntmps14
  go_wp2
  go_ret
  exact ⟨by rw [HN.out]; rfl, HB.out⟩
theorem retp (Q : Ending → World → Prop) (a : Act) (W : World) (b : Nat) (p : Pl) (h2 : a.tmps.getD 2 undef = .pointer (some ⟨b, 0, none⟩)) (hd : a.defers = [])
    (hb : Blk W b 31 p.cs) (hq : Q (.returned p.v) W) : bodyPost Try.prog Try.f12 Q .ret a W := by
  have q0 : W.cell? ⟨b, 0, none⟩ = some (.int .i64 p.kind) := hb.cell 0
  have q1 : W.cell? ⟨b, 1, none⟩ = some (.int .i64 p.from_) := hb.cell 1
  have q2 : W.cell? ⟨b, 2, none⟩ = some (.int .i64 p.to_) := hb.cell 2
  have q3 : W.cell? ⟨b, 3, none⟩ = some (.int .i64 p.root) := hb.cell 3
  have q4 : W.cell? ⟨b, 4, none⟩ = some (.int .u16 p.boot) := hb.cell 4
  have q5 : W.cell? ⟨b, 5, none⟩ = some (.int .u16 p.seq) := hb.cell 5
  have q6 : W.cell? ⟨b, 6, none⟩ = some (.int .i64 p.hops) := hb.cell 6
  have q7 : W.cell? ⟨b, 7, none⟩ = some (.int .i64 p.time) := hb.cell 7
  have q8 : W.cell? ⟨b, 8, none⟩ = some (.int .i64 p.level) := hb.cell 8
  have q9 : W.cell? ⟨b, 9, none⟩ = some (.int .i64 p.sent) := hb.cell 9
  have q10 : W.cell? ⟨b, 10, none⟩ = some (.int .i64 p.got) := hb.cell 10
  have q11 : W.cell? ⟨b, 11, none⟩ = some (.int .i64 p.back) := hb.cell 11
  have q12 : W.cell? ⟨b, 12, none⟩ = some (.int .i64 p.glob) := hb.cell 12
  have q13 : W.cell? ⟨b, 13, none⟩ = some (.int .i64 p.tai) := hb.cell 13
  obtain ⟨tmps, defers⟩ := a
  simp only at h2 hd
  subst hd
  rw [Array.getD_eq_getD_getElem?] at h2
  refine bodyPost_ret (v := p.v) ?_ rfl hq
  simp [results, Try.results12, go_sem, h2, q0, q1, q2, q3, q4, q5, q6, q7, q8, q9, q10, q11, q12, q13, Pl.v, Pl.cs]
set_option maxRecDepth 100000 in
theorem plain_sync (a0 a1 a2 a3 a4 a5 : Int) (w : World) : Calls Try.prog 12 #[frm 1 [a0, a1, a2, a3, a4, a5]] w fun e w' => e = .returned (pln 1 [a0, a1, a2, a3, a4, a5]).v ∧ Below w.heap.size w w' := by
  change Calls Try.prog 12 #[.iface 75 (.agg #[.int .i64 a0, .int .i64 a1, .int .u16 a2, .int .u16 a3, .int .i64 a4, .int .i64 a5])] w _
  have t0 := as_sync_sync
  go_enter Try.func12, Try.ntmps12
  go_wp2
  exact retp _ _ _ w.heap.size _ rfl rfl ((Blk.new w 31 _).alloc _) ⟨rfl, ((Below.refl w.heap.size w).alloc (Nat.le_refl _) _).alloc (by simp) _⟩
set_option maxRecDepth 100000 in
theorem plain_find (a0 a1 : Int) (w : World) : Calls Try.prog 12 #[frm 2 [a0, a1]] w fun e w' => e = .returned (pln 2 [a0, a1]).v ∧ Below w.heap.size w w' := by
  change Calls Try.prog 12 #[.iface 77 (.agg #[.int .i64 a0, .int .i64 a1])] w _
  have t0 := as_find_sync
  have t1 := as_find_find
  go_enter Try.func12, Try.ntmps12
  go_wp2
  exact retp _ _ _ w.heap.size _ rfl rfl ((Blk.new w 31 _).alloc _) ⟨rfl, ((Below.refl w.heap.size w).alloc (Nat.le_refl _) _).alloc (by simp) _⟩
set_option maxRecDepth 100000 in
theorem plain_want (a0 : Int) (w : World) : Calls Try.prog 12 #[frm 3 [a0]] w fun e w' => e = .returned (pln 3 [a0]).v ∧ Below w.heap.size w w' := by
  change Calls Try.prog 12 #[.iface 51 (.agg #[.int .i64 a0])] w _
  have t0 := as_want_sync
  have t1 := as_want_find
  have t2 := as_want_want
  go_enter Try.func12, Try.ntmps12
  go_wp2
  exact retp _ _ _ w.heap.size _ rfl rfl ((Blk.new w 31 _).alloc _) ⟨rfl, ((Below.refl w.heap.size w).alloc (Nat.le_refl _) _).alloc (by simp) _⟩
set_option maxRecDepth 100000 in
theorem plain_pulse (a0 a1 a2 : Int) (w : World) : Calls Try.prog 12 #[frm 4 [a0, a1, a2]] w fun e w' => e = .returned (pln 4 [a0, a1, a2]).v ∧ Below w.heap.size w w' := by
  change Calls Try.prog 12 #[.iface 79 (.agg #[.int .i64 a0, .int .i64 a1, .int .i64 a2])] w _
  have t0 := as_pulse_sync
  have t1 := as_pulse_find
  have t2 := as_pulse_want
  have t3 := as_pulse_pulse
  go_enter Try.func12, Try.ntmps12
  go_wp2
  exact retp _ _ _ w.heap.size _ rfl rfl ((Blk.new w 31 _).alloc _) ⟨rfl, ((Below.refl w.heap.size w).alloc (Nat.le_refl _) _).alloc (by simp) _⟩
set_option maxRecDepth 100000 in
theorem plain_reply (a0 a1 a2 a3 a4 a5 a6 a7 : Int) (w : World) : Calls Try.prog 12 #[frm 5 [a0, a1, a2, a3, a4, a5, a6, a7]] w fun e w' => e = .returned (pln 5 [a0, a1, a2, a3, a4, a5, a6, a7]).v ∧ Below w.heap.size w w' := by
  change Calls Try.prog 12 #[.iface 81 (.agg #[.int .i64 a0, .int .i64 a1, .int .i64 a2, .int .i64 a3, .int .i64 a4, .int .i64 a5, .int .u16 a6, .int .i64 a7])] w _
  have t0 := as_reply_sync
  have t1 := as_reply_find
  have t2 := as_reply_want
  have t3 := as_reply_pulse
  have t4 := as_reply_reply
  go_enter Try.func12, Try.ntmps12
  go_wp2
  exact retp _ _ _ w.heap.size _ rfl rfl ((Blk.new w 31 _).alloc _) ⟨rfl, ((Below.refl w.heap.size w).alloc (Nat.le_refl _) _).alloc (by simp) _⟩
set_option maxRecDepth 100000 in
theorem plain_anchor (a0 a1 a2 a3 a4 a5 : Int) (w : World) : Calls Try.prog 12 #[frm 6 [a0, a1, a2, a3, a4, a5]] w fun e w' => e = .returned (pln 6 [a0, a1, a2, a3, a4, a5]).v ∧ Below w.heap.size w w' := by
  change Calls Try.prog 12 #[.iface 83 (.agg #[.int .i64 a0, .int .u16 a1, .int .i64 a2, .int .u16 a3, .int .i64 a4, .int .i64 a5])] w _
  have t0 := as_anchor_sync
  have t1 := as_anchor_find
  have t2 := as_anchor_want
  have t3 := as_anchor_pulse
  have t4 := as_anchor_reply
  have t5 := as_anchor_anchor
  go_enter Try.func12, Try.ntmps12
  go_wp2
  exact retp _ _ _ w.heap.size _ rfl rfl ((Blk.new w 31 _).alloc _) ⟨rfl, ((Below.refl w.heap.size w).alloc (Nat.le_refl _) _).alloc (by simp) _⟩
theorem plain_ok {k : Nat} (hk : 1 ≤ k ∧ k ≤ 6) {ns : List Int} (h : ns.length = (spec k).length) (w : World) : Calls Try.prog 12 #[frm k ns] w fun e w' => e = .returned (pln k ns).v ∧ Below w.heap.size w w' := by
  rcases (by omega : k = 1 ∨ k = 2 ∨ k = 3 ∨ k = 4 ∨ k = 5 ∨ k = 6) with rfl | rfl | rfl | rfl | rfl | rfl
  · obtain ⟨a0, a1, a2, a3, a4, a5, rfl⟩ := cut_1 h
    exact plain_sync a0 a1 a2 a3 a4 a5 w
  · obtain ⟨a0, a1, rfl⟩ := cut_2 h
    exact plain_find a0 a1 w
  · obtain ⟨a0, rfl⟩ := cut_3 h
    exact plain_want a0 w
  · obtain ⟨a0, a1, a2, rfl⟩ := cut_4 h
    exact plain_pulse a0 a1 a2 w
  · obtain ⟨a0, a1, a2, a3, a4, a5, a6, a7, rfl⟩ := cut_5 h
    exact plain_reply a0 a1 a2 a3 a4 a5 a6 a7 w
  · obtain ⟨a0, a1, a2, a3, a4, a5, rfl⟩ := cut_6 h
    exact plain_anchor a0 a1 a2 a3 a4 a5 w
end Go.Proofs.Ytjkngcpmcmffmaa.Pl
