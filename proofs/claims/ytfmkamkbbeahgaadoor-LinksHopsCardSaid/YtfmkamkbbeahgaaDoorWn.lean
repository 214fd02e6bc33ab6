/- Of no links: what each function answers. -/
import Derived.Test.YtfmkamkbbeahgaaDoorSc
import Derived.Test.YtfmkamkbbeahgaaDoorHo
import Derived.Test.YtfmkamkbbeahgaaDoorSq
namespace Go.Proofs.YtfmkamkbbeahgaaDoor.Wn
open Go.RowKit Go.Proofs.YtfmkamkbbeahgaaDoor.Sq Go.Proofs.YtfmkamkbbeahgaaDoor.Bk Go.Proofs.YtfmkamkbbeahgaaDoor.Kp Go.Proofs.YtfmkamkbbeahgaaDoor.Lk Go.Proofs.YtfmkamkbbeahgaaDoor.Hm Go.Proofs.YtfmkamkbbeahgaaDoor.Bm Go.Proofs.YtfmkamkbbeahgaaDoor.Sc
theorem len_n (w : World) : Calls Tryd.prog 22 #[.pointer none] w fun e w' => e = .returned (.int .i64 0) ∧ w = w' := len_any none [] w (.inl ⟨rfl, rfl⟩)
theorem near_n (w : World) : Calls Tryd.prog 23 #[.pointer none, .int .i64 0] w fun e w' => e = .returned (.int .u64 0) ∧ w = w' := near_any none [] 0 w (.inl ⟨rfl, rfl⟩)
theorem has_n (w : World) : Calls Tryd.prog 16 #[.pointer none, .int .i64 0, .int .i64 1] w fun e w' => e = .returned (.bool false) ∧ w = w' := has_any none [] 0 1 w (.inl ⟨rfl, rfl⟩) (by decide)
theorem may_n (w : World) : Calls Tryd.prog 21 #[.pointer none, .int .i64 0, .int .i64 1] w fun e w' => e = .returned (.bool false) ∧ w = w' := may_any none [] 0 1 w (.inl ⟨rfl, rfl⟩)
/-- Wide's four boxes. -/
theorem four (l : Option Addr) (s : Nat) (w : World) : ∃ W, (((w.alloc (.cells #[.pointer l] 29)).alloc (.cells #[.int .u64 s] 22)).alloc (.cells #[.int .i64 0] 3)).alloc (.cells #[.bool false] 4) = W ∧ W.heap.size = w.heap.size + 4 ∧ Below w.heap.size w W ∧
    Blk W w.heap.size 29 #[.pointer l] ∧ Blk W (w.heap.size + 1) 22 #[.int .u64 s] ∧ Blk W (w.heap.size + 1 + 1) 3 #[.int .i64 0] ∧ Blk W (w.heap.size + 1 + 1 + 1) 4 #[.bool false] := by
  refine ⟨_, rfl, by simp, ((((Below.refl _ w).alloc (by omega) _).alloc (by simp) _).alloc (by simp; omega) _).alloc (by simp; omega) _, (((Blk.new w _ _).alloc _).alloc _).alloc _, ?_, ?_, ?_⟩
  · have h := Blk.new (w.alloc (.cells #[.pointer l] 29)) 22 #[.int .u64 s]
    rw [World.size_alloc] at h
    exact (h.alloc _).alloc _
  · have h := Blk.new ((w.alloc (.cells #[.pointer l] 29)).alloc (.cells #[.int .u64 s] 22)) 3 #[.int .i64 0]
    rw [World.size_alloc, World.size_alloc] at h
    exact h.alloc _
  · have h := Blk.new (((w.alloc (.cells #[.pointer l] 29)).alloc (.cells #[.int .u64 s] 22)).alloc (.cells #[.int .i64 0] 3)) 4 #[.bool false]
    rw [World.size_alloc, World.size_alloc, World.size_alloc] at h
    exact h
theorem ret_wide (Q : Ending → World → Prop) (a : Act) (W : World) (b c : Nat) (v : Int) (o : Bool) (h4 : a.tmps.getD 4 undef = .pointer (some ⟨b, 0, none⟩)) (h5 : a.tmps.getD 5 undef = .pointer (some ⟨c, 0, none⟩)) (hd : a.defers = [])
    (hb : Blk W b 3 #[.int .i64 v]) (hc : Blk W c 4 #[.bool o]) (hq : Q (.returned (.tuple #[.int .i64 v, .bool o])) W) : bodyPost Tryd.prog Tryd.f18 Q .ret a W := by
  have q0 : W.cell? ⟨b, 0, none⟩ = some (.int .i64 v) := hb.cell 0
  have q1 : W.cell? ⟨c, 0, none⟩ = some (.bool o) := hc.cell 0
  obtain ⟨tmps, defers⟩ := a
  simp only at h4 h5 hd
  subst hd
  refine bodyPost_ret (v := .tuple #[.int .i64 v, .bool o]) ?_ rfl hq
  rw [Array.getD_eq_getD_getElem?] at h4 h5
  simp [results, Tryd.results18, go_sem, h4, h5, q0, q1]
set_option maxRecDepth 100000 in
theorem wide_nil (s : Nat) (w : World) : Calls Tryd.prog 18 #[.pointer none, .int .u64 s] w fun e w' => e = .returned (.tuple #[.int .i64 0, .bool false]) ∧ Below w.heap.size w w' := by
  obtain ⟨W, hW, hs, hb, b0, b1, b2, b3⟩ := four none s w
  have HB := Lib.hid hb
  have H2 := Lib.hid b2
  have H3 := Lib.hid b3
  have c0 : W.drew.cell? ⟨w.heap.size, 0, none⟩ = some (.pointer none) := b0.drew.cell 0
  have c2 : W.drew.cell? ⟨w.heap.size + 1 + 1, 0, none⟩ = some (.int .i64 0) := b2.drew.cell 0
  have c3 : W.drew.cell? ⟨w.heap.size + 1 + 1 + 1, 0, none⟩ = some (.bool false) := b3.drew.cell 0
  have f2 := b2.drew.frozen 0
  have f3 := b3.drew.frozen 0
  have d3 : (W.setCell ⟨w.heap.size + 1 + 1, 0, none⟩ (.int .i64 0)).drew.cell? ⟨w.heap.size + 1 + 1 + 1, 0, none⟩ = some (.bool false) := (b3.far (p := ⟨w.heap.size + 1 + 1, 0, none⟩) (by show w.heap.size + 1 + 1 + 1 ≠ w.heap.size + 1 + 1; omega) _).drew.cell 0
  have e3 := (b3.far (p := ⟨w.heap.size + 1 + 1, 0, none⟩) (by show w.heap.size + 1 + 1 + 1 ≠ w.heap.size + 1 + 1; omega) (.int .i64 0)).drew.frozen 0
  clear hb b0 b1 b2 b3
  go_enter Tryd.func18, Tryd.ntmps18
  go_wp2
  clear hW
  refine wp_region_seq [(0, true), (1, true), (2, true), (3, true), (4, true), (5, false), (6, true), (7, true), (8, true)] (fun w' => w'.cell? ⟨w.heap.size, 0, none⟩ = some (.pointer none)) (by kernel_rfl) (by kernel_rfl) c0 (fun hHeld => ?_)
  simp only [List.map_cons, List.map_nil, List.getElem?_toArray, List.getElem?_cons_zero, List.getElem?_cons_succ]
  repeat (first | (refine seq_skip (by rfl) ?_; try simp only [Act.put, List.setIfInBounds_toArray, List.set_cons_zero, List.set_cons_succ]) | (refine seq_not (by rfl) (by assumption) ?_; try simp only [Act.put, List.setIfInBounds_toArray, List.set_cons_zero, List.set_cons_succ]) | (refine seq_take (v := ?_) (by rfl) ?_ ?_; rotate_left; (focus ((intro w hSw; (try dsimp only at hSw); go_simp; (try with_reducible rfl)); done)); try simp only [Act.put, List.setIfInBounds_toArray, List.set_cons_zero, List.set_cons_succ]))
  refine seq_done ?_
  clear hHeld
  go_wp2
  refine ret_wide _ _ _ _ _ 0 false rfl rfl rfl ?_ ?_ ⟨rfl, ?_⟩
  · exact ((H2.out.set_ 0 _).far (p := ⟨w.heap.size + 1 + 1 + 1, 0, none⟩) (by show w.heap.size + 1 + 1 ≠ w.heap.size + 1 + 1 + 1; omega) _).drew
  · exact ((H3.out.far (p := ⟨w.heap.size + 1 + 1, 0, none⟩) (by show w.heap.size + 1 + 1 + 1 ≠ w.heap.size + 1 + 1; omega) _).set_ 0 _).drew
  · exact ((HB.out.setCell (p := ⟨w.heap.size + 1 + 1, 0, none⟩) (by show w.heap.size ≤ w.heap.size + 1 + 1; omega) _).setCell (p := ⟨w.heap.size + 1 + 1 + 1, 0, none⟩) (by show w.heap.size ≤ w.heap.size + 1 + 1 + 1; omega) _).drew
end Go.Proofs.YtfmkamkbbeahgaaDoor.Wn
