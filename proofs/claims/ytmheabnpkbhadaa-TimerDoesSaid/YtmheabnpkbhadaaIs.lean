/- slices.Insert at the row of timers: one timer is laid in. -/
import Derived.Test.YtmheabnpkbhadaaDl
import Derived.Deep.RegionLaw
namespace Go.Proofs.Ytmheabnpkbhadaa.Is
open Go.RowKit Go.Proofs.Ytmheabnpkbhadaa.Bk Go.Proofs.Ytmheabnpkbhadaa.Kp Go.Proofs.Ytmheabnpkbhadaa.Rw Go.Proofs.Ytmheabnpkbhadaa.Tp Go.Proofs.Ytmheabnpkbhadaa.Tl Go.Proofs.Ytmheabnpkbhadaa.Dl
/-- What the call leaves: the timer laid in at i; the row's old block, or a new one. -/
abbrev Post (q : Nat) (l : List One) (i : Nat) (x : One) (w : World) (e : Ending) (w' : World) : Prop :=
  (∃ v' q', e = .returned v' ∧ Rs w' v' q' (l.take i ++ x :: l.drop i) ∧ (q' = q ∨ w.heap.size ≤ q')) ∧ Kp (· = q) w w'
theorem step_copy_run {P : Program} {ops : Array Oper} {o : Oper} {a : Act} {w : World} {K : Act → World → Prop} {Q : Exit → Act → World → Prop} {E : Prop}
    (hg : o.guard = none) (d x : Operand) (dT sT : TypeId) (hop : o.op = Op.call { callee := Callee.builtin Builtin.copy, args := #[d, x], argTypes := #[dT, sT] })
    (v u : Value) (hd : a.eval d = v) (hx : a.eval x = u) {v' : Value} {w' : World} (hr : (Builtin.copy_ #[dT, sT] o.type #[v, u]).run P w = .ok v' w') (hK : K (a.put o.dst v') w') :
    if Region.wanted o (yielded ops a.tmps) = true then Oper.wp P o a w K Q else E := by
  have hw : Region.wanted o (yielded ops a.tmps) = true := by simp [Region.wanted, hg]
  rw [if_pos hw]
  unfold Oper.wp
  simp [execOp, hop, resolve, invoke, builtin, hd, hx, hr, Result.andThen]
  exact hK
theorem len_ins (l : List One) (i : Nat) (x : One) (hi : i ≤ l.length) : (l.take i ++ x :: l.drop i).length = l.length + 1 := by
  rw [List.length_append, List.length_take, List.length_cons, List.length_drop, Nat.min_eq_left hi]
  omega
set_option maxRecDepth 100000 in
set_option maxHeartbeats 2000000 in
theorem shift_ok (q o c : Nat) (C : Array Value) (l : List One) (i vb : Nat) (x : One) (w : World) (hb : Blk w q 51 C) (hc : l.length + 1 ≤ c) (hm : c ≤ maxLen) (hs : o + c * 2 ≤ C.size) (hC : At C o (cel l))
    (hi : i < l.length) (hx : Blk w vb 51 #[.int .i64 x.1, .int .i64 x.2]) (hne : vb ≠ q) :
    Calls Try.prog 21 #[.slice (some ⟨q, o, none⟩) l.length c, .int .i64 i, .slice (some ⟨vb, 0, none⟩) 1 1] w (Post q l i x w) := by
  obtain ⟨N, hN⟩ : ∃ N, l.length = N := ⟨_, rfl⟩
  rw [hN] at hi hc ⊢
  unfold maxLen at hm
  have hov : ∀ lb cb, (callFunc 26 #[.slice (some ⟨vb, 0, none⟩) 1 1, .slice (some ⟨q, o + (i + 1) * 2, none⟩) lb cb]).run Try.prog w = .ok (.value (.bool false)) w := fun lb cb => by
    rw [run_callFunc_extern Try.func26 (by kernel_rfl) (by kernel_rfl) (by kernel_rfl) (e := Extern.SlicesOverlaps.overlaps #[24, 24] #[4]) (by kernel_rfl),
      Lib.run_overlaps_apart w 24 4 51 Try.underlying24 2 Try.sizeOf51 ⟨vb, 0, none⟩ ⟨q, o + (i + 1) * 2, none⟩ 1 1 lb cb hne 51 51 2 C.size (by unfold Blk at hx; simp [World.shape?, hx]) (by unfold Blk at hb; simp [World.shape?, hb]) (by omega) (hx.frozen _) (hx.frozen _)]
    rfl
  have hdl : (cel (l.drop i)).length = (N - i) * 2 := by rw [cel_length, List.length_drop, hN]
  have hCd : At C (o + i * 2) (cel (l.drop i)) := by rw [cel_drop]; exact hC.drop (i * 2) (by rw [cel_length, hN]; omega)
  obtain ⟨W1, hW1⟩ : ∃ W1, w.drew.setCells q (o + (i + 1) * 2) (cel (l.drop i)) = W1 := ⟨_, rfl⟩
  have hcp1 : ∀ ty dc sc, (Builtin.copy_ #[24, 24] ty #[.slice (some ⟨q, o + (i + 1) * 2, none⟩) (N - i) dc, .slice (some ⟨q, o + i * 2, none⟩) (N + 1 - i) sc]).run Try.prog w.drew = .ok (goInt ((N - i : Nat) : Int)) W1 := fun ty dc sc => by
    rw [← hW1]
    exact run_copy_any w.drew 24 24 ty 51 2 q (o + (i + 1) * 2) _ dc ⟨q, o + i * 2, none⟩ _ sc (N - i) (cel (l.drop i)) Try.underlying24 (by kernel_rfl) (by show min _ _ = _; omega) hdl
      (fun j v hj => by rw [addr_add, hb.drew.cell]; exact hCd j v hj)
      (fun j hj => by rw [hb.drew.cell, Array.getElem?_eq_getElem (by omega)]; rfl) (fun j _ => hb.drew.frozen _) (cel_one' _)
  have hb1 : Blk W1 q 51 (lay C (o + (i + 1) * 2) (cel (l.drop i))) := by rw [← hW1]; exact blk_setCells _ _ _ _ hb.drew
  have hk1 : Kp (· = q) w W1 := by rw [← hW1]; exact kp_setCells _ _ _ (Kp.refl _ w).drew (.inl rfl)
  have hx1 := blk_kp hx hk1 hne
  have hcp2 : ∀ ty dc, (Builtin.copy_ #[24, 24] ty #[.slice (some ⟨q, o + i * 2, none⟩) (N + 1 - i) dc, .slice (some ⟨vb, 0, none⟩) 1 1]).run Try.prog W1 = .ok (goInt (1 : Nat)) (W1.setCells q (o + i * 2) (cel [x])) := fun ty dc =>
    run_copy_any W1 24 24 ty 51 2 q (o + i * 2) _ dc ⟨vb, 0, none⟩ _ 1 1 (cel [x]) Try.underlying24 (by kernel_rfl) (by show min _ _ = _; omega) rfl
      (fun j v hj => by rw [addr_add, hx1.cell, Nat.zero_add]; rw [cel_one] at hj; simpa using hj)
      (fun j hj => by rw [cel_length] at hj; simp at hj; rw [hb1.cell, Array.getElem?_eq_getElem (by rw [lay_size]; omega)]; rfl) (fun j _ => hb1.frozen _) (cel_one' _)
  have hfin : Post q l i x w (.returned (.slice (some ⟨q, o, none⟩) (N + 1) c)) (W1.setCells q (o + i * 2) (cel [x])) := by
    have hll := len_ins l i x (by omega)
    rw [hN] at hll
    refine ⟨⟨_, q, rfl, ⟨o, c, _, by rw [hll], blk_setCells _ _ _ _ hb1, by rw [hll]; omega, by unfold maxLen; omega, by rw [lay_size, lay_size]; exact hs, ?_⟩, .inl rfl⟩, kp_setCells _ _ _ hk1 (.inl rfl)⟩
    have ht : (cel (l.take i)).length = i * 2 := by rw [cel_length, List.length_take, hN, Nat.min_eq_left (by omega)]
    have h2 : (cel [x]).length = 2 := rfl
    rw [cel_append, show x :: l.drop i = [x] ++ l.drop i from rfl, cel_append]
    refine At.app (At.apart (At.apart ?_ (.inl (by rw [ht]; omega))) (.inl (by rw [ht]; omega))) (At.app ?_ (At.apart ?_ (.inr (by rw [ht, h2]; omega))))
    · rw [cel_take]; exact hC.take _
    · rw [ht]; exact at_lay (by rw [lay_size, h2]; omega)
    · rw [ht, h2, show o + i * 2 + 2 = o + (i + 1) * 2 by omega]; exact at_lay (by rw [hdl]; omega)
  have HF := Lib.hid hfin
  have HV := Lib.hid hov
  have HC1 := Lib.hid hcp1
  have HC2 := Lib.hid hcp2
  have hz2 : ¬ ((i : Int) = (N : Int)) := by omega
  have hin : i ≤ N := by omega
  have hw1 : IntKind.i64.wrap ((i : Int) + 1) = (i : Int) + 1 := by rw [IntKind.wrap_i64]; omega
  have hp1 : (0 : Int) ≤ (i : Int) + 1 := by omega
  have hp2 : (i : Int) ≤ (N : Int) + 1 := by omega
  have htn : ((i : Int) + 1).toNat = i + 1 := by omega
  have hb2 : ¬ (c = i + 1) := by omega
  have hb4 : ¬ (c = i) := by omega
  clear hfin hov hcp1 hcp2 hW1 hb1 hk1 hx1 hCd hdl hb hC hs hx hne
  go_enter Try.func21, Try.ntmps21
  go_wp2_with (simp only [HV.out])
  have HC1 := HC1.out
  go_region
  have HC2 := HC2.out
  go_wp2
  go_ret
  exact HF.out
set_option maxRecDepth 100000 in
set_option maxHeartbeats 2000000 in
theorem room_ok (q o c : Nat) (C : Array Value) (l : List One) (vb : Nat) (x : One) (w : World) (hb : Blk w q 51 C) (hc : l.length + 1 ≤ c) (hm : c ≤ maxLen) (hs : o + c * 2 ≤ C.size) (hC : At C o (cel l))
    (hx : Blk w vb 51 #[.int .i64 x.1, .int .i64 x.2]) :
    Calls Try.prog 21 #[.slice (some ⟨q, o, none⟩) l.length c, .int .i64 l.length, .slice (some ⟨vb, 0, none⟩) 1 1] w (Post q l l.length x w) := by
  obtain ⟨N, hN⟩ : ∃ N, l.length = N := ⟨_, rfl⟩
  have hfin : Post q l l.length x w (.returned (.slice (some ⟨q, o, none⟩) (N + 1) c)) (w.setCells q (o + N * 2) (cel [x])) := by
    have hll := len_ins l l.length x (Nat.le_refl _)
    refine ⟨⟨_, q, rfl, ⟨o, c, _, by rw [hll, hN], blk_setCells _ _ _ _ hb, by rw [hll]; exact hc, hm, by rw [lay_size]; exact hs, ?_⟩, .inl rfl⟩, kp_setCells _ _ _ (Kp.refl _ w) (.inl rfl)⟩
    have h2 : (cel [x]).length = 2 := rfl
    have h3 := cel_length l
    rw [List.take_of_length_le (Nat.le_refl _), List.drop_of_length_le (Nat.le_refl _), cel_append]
    refine At.app (At.apart hC (.inl (by omega))) ?_
    rw [h3, hN]
    exact at_lay (by omega)
  rw [hN] at hc hfin ⊢
  unfold maxLen at hm
  have hsrc : Src Try.prog 2 24 (.slice (some ⟨vb, 0, none⟩) 1 1) 1 (cel [x]) w := Src.ofSlice w Try.underlying24 ⟨vb, 0, none⟩ 1 1 (cel [x]) rfl (fun j u hj => by rw [addr_add, hx.cell, Nat.zero_add]; rw [cel_one] at hj; simpa using hj) (cel_one' _)
  obtain ⟨i0, hi0, hz1⟩ : ∃ i0, Try.prog.info? 51 = some i0 ∧ i0.size = 2 := ⟨_, rfl, rfl⟩
  have HF := Lib.hid hfin
  have hsp : Hid (∀ j, j < (cel [x]).length → (w.cell? ⟨q, o + N * i0.size + j, none⟩).isSome = true) := fun j hj => by
    rw [cel_length] at hj
    simp at hj
    rw [hz1, hb.cell, Array.getElem?_eq_getElem (by omega)]; rfl
  have hfz : Hid (∀ j, j < (cel [x]).length → w.frozen? ⟨q, o + N * i0.size + j, none⟩ = false) := fun j _ => hb.frozen _
  have HSrc := Lib.hid (show Src Try.prog i0.size 24 (.slice (some ⟨vb, 0, none⟩) 1 1) 1 (cel [x]) w by rw [hz1]; exact hsrc)
  have HZ := Lib.hid hz1
  clear hfin hsrc hb hx hC hs hz1
  go_enter Try.func21, Try.ntmps21
  go_wp2_with (at_builtin; refine wpList_append_room_src _ rfl _ _ 24 24 rfl 51 i0 Try.underlying24 hi0 q o N c rfl _ rfl 1 (cel [x]) HSrc.out hc hsp.out hfz.out ?_; rw [HZ.out])
  go_ret
  exact HF.out
set_option maxRecDepth 100000 in
set_option maxHeartbeats 2000000 in
theorem grow_end_ok (A : Option Addr) (q c : Nat) (l : List One) (vb : Nat) (x : One) (w : World) (hr : Rn w (.slice A l.length c) q l) (hc : c < l.length + 1) (hl : l.length ≤ 1000)
    (hx : Blk w vb 51 #[.int .i64 x.1, .int .i64 x.2]) :
    Calls Try.prog 21 #[.slice A l.length c, .int .i64 l.length, .slice (some ⟨vb, 0, none⟩) 1 1] w (Post q l l.length x w) := by
  obtain ⟨N, hN⟩ : ∃ N, l.length = N := ⟨_, rfl⟩
  obtain ⟨i0, hi0, hz0, hz1, hz2⟩ : ∃ i0, Try.prog.info? 51 = some i0 ∧ i0.zero = some (.agg #[.int .i64 0, .int .i64 0]) ∧ i0.size = 2 ∧ i0.bytes = 16 := ⟨_, rfl, rfl, rfl, rfl⟩
  have hsrc : Src Try.prog i0.size 24 (.slice (some ⟨vb, 0, none⟩) 1 1) 1 (cel [x]) w := by
    rw [hz1]
    exact Src.ofSlice w Try.underlying24 ⟨vb, 0, none⟩ 1 1 (cel [x]) rfl (fun j u hj => by rw [addr_add, hx.cell, Nat.zero_add]; rw [cel_one] at hj; simpa using hj) (cel_one' _)
  have hold : (Builtin.firstCells i0.size N (.slice A N c)).run Try.prog w.drew = .ok (cel l).toArray w.drew := by
    rw [hz1]
    rcases hr with ⟨h1, h2⟩ | ⟨o, c', C, h1, hb, _, _, _, hC⟩
    · injection h1 with h1 h3 _
      subst h1 h2
      have : N = 0 := by rw [← hN]; rfl
      subst this
      exact run_firstCells_none w.drew 2 0 0 c
    · injection h1 with h1
      subst h1
      exact run_firstCells_some w.drew 2 N _ N c (cel l) (by rw [cel_length, hN]) (fun j v hj => by rw [addr_add, hb.drew.cell]; exact hC j v hj)
  have hrun : ∀ ty, (Builtin.append_ #[24, 24] ty #[.slice A N c, .slice (some ⟨vb, 0, none⟩) 1 1]).run Try.prog w = _ := fun ty =>
    run_append_grow_src w 24 24 ty 51 i0 _ Try.underlying24 hi0 hz0 A N c (cel l) hold _ 1 (cel [x]) hsrc (by omega) (by omega) (by rw [hz2]; exact growslice_fits (by omega) (by omega))
  have hG1 := grownCap_ge w (N + 1) c 51
  have hG2 := grownCap_le_maxLen w (N + 1) c 51 (by unfold maxLen; omega)
  obtain ⟨G, hG⟩ : ∃ G, grownCap w (N + 1) c 51 = G := ⟨_, rfl⟩
  rw [hG] at hrun hG1 hG2
  obtain ⟨ROW, hROW⟩ : ∃ ROW : Array Value, (cel l ++ cel [x]).toArray ++ Builtin.zeroCells (Value.agg #[.int .i64 0, .int .i64 0]).cells (G - (N + 1)) = ROW := ⟨_, rfl⟩
  rw [hROW] at hrun
  have hfin : Post q l l.length x w (.returned (.slice (some ⟨w.heap.size, 0, none⟩) (N + 1) G)) (w.drew.alloc (.cells ROW 51)) := by
    have hll := len_ins l l.length x (Nat.le_refl _)
    refine ⟨⟨_, w.heap.size, rfl, ⟨0, G, ROW, by rw [hll, hN], Blk.new w.drew 51 ROW, by rw [hll, hN]; exact hG1, hG2, ?_, ?_⟩, .inr (Nat.le_refl _)⟩, ((Kp.refl _ w).drew).alloc _⟩
    · rw [← hROW, Array.size_append, size_zeroCells]
      simp only [List.size_toArray, List.length_append, cel_length, hN, Value.cells]
      simp
      omega
    · rw [List.take_of_length_le (Nat.le_refl _), List.drop_of_length_le (Nat.le_refl _), cel_append]
      intro j v hv
      rw [Nat.zero_add, ← hROW, Array.getElem?_append_left (by simpa using (List.getElem?_eq_some_iff.1 hv).1)]
      simpa using hv
  rw [hN] at hc hfin hl ⊢
  have HF := Lib.hid hfin
  have HR := Lib.hid hrun
  have hA : (A = none ∧ N = 0 ∧ c = 0) ∨ ∃ o, A = some ⟨q, o, none⟩ := by
    rcases hr with ⟨h1, h2⟩ | ⟨o, c', C, h1, _⟩
    · injection h1 with h1 h3 h4
      exact .inl ⟨h1, by omega, h4⟩
    · injection h1 with h1
      exact .inr ⟨o, h1⟩
  clear hfin hrun hr hx hsrc hold hG hG1 hG2 hROW hN
  rcases hA with ⟨rfl, rfl, rfl⟩ | ⟨o, rfl⟩
  · go_enter Try.func21, Try.ntmps21
    go_wp2_with (at_builtin; refine Lib.wpList_append_run _ rfl _ _ _ _ rfl _ _ rfl rfl _ _ (HR.out _) ?_)
    all_goals (go_ret; exact HF.out)
  · go_enter Try.func21, Try.ntmps21
    go_wp2_with (at_builtin; refine Lib.wpList_append_run _ rfl _ _ _ _ rfl _ _ rfl rfl _ _ (HR.out _) ?_)
    all_goals (go_ret; exact HF.out)
set_option maxRecDepth 100000 in
set_option maxHeartbeats 2000000 in
theorem grow_mid_ok (q o c : Nat) (C : Array Value) (l : List One) (i vb : Nat) (x : One) (w : World) (hb : Blk w q 51 C) (hlc : l.length ≤ c) (hc : c < l.length + 1) (hl : l.length ≤ 1000) (hC : At C o (cel l))
    (hi : i < l.length) (hx : Blk w vb 51 #[.int .i64 x.1, .int .i64 x.2]) :
    Calls Try.prog 21 #[.slice (some ⟨q, o, none⟩) l.length c, .int .i64 i, .slice (some ⟨vb, 0, none⟩) 1 1] w (Post q l i x w) := by
  obtain ⟨N, hN⟩ : ∃ N, l.length = N := ⟨_, rfl⟩
  rw [hN] at hi hc hlc hl ⊢
  obtain ⟨i0, hi0, hz0, hz1, hz2⟩ : ∃ i0, Try.prog.info? 51 = some i0 ∧ i0.zero = some (.agg #[.int .i64 0, .int .i64 0]) ∧ i0.size = 2 ∧ i0.bytes = 16 := ⟨_, rfl, rfl, rfl, rfl⟩
  have hdl : (cel (l.drop i)).length = (N - i) * 2 := by rw [cel_length, List.length_drop, hN]
  have htl : (cel (l.take i)).length = i * 2 := by rw [cel_length, List.length_take, hN, Nat.min_eq_left (by omega)]
  have hCd : At C (o + i * 2) (cel (l.drop i)) := by rw [cel_drop]; exact hC.drop (i * 2) (by rw [cel_length, hN]; omega)
  have hCt : At C o (cel (l.take i)) := by rw [cel_take]; exact hC.take _
  have hold : (Builtin.firstCells i0.size i (.slice (some ⟨q, o, none⟩) i c)).run Try.prog w.drew = .ok (cel (l.take i)).toArray w.drew := by
    rw [hz1]
    exact run_firstCells_some w.drew 2 i ⟨q, o, none⟩ i c (cel (l.take i)) htl (fun j v hj => by rw [addr_add, hb.drew.cell]; exact hCt j v hj)
  have hG1 := grownCap_ge w (N + 1) c 51
  have hG2 := grownCap_le_maxLen w (N + 1) c 51 (by unfold maxLen; omega)
  have hik : i + (N + 1 - i) = N + 1 := by omega
  have hkk : (N : Int) + 1 - (i : Int) = ((N + 1 - i : Nat) : Int) := by omega
  have hrz : ∀ ty, (Builtin.append_ #[24, 3] ty #[.slice (some ⟨q, o, none⟩) i c, .int .i64 ((N : Int) + 1 - (i : Int))]).run Try.prog w =
      .ok (.slice (some ⟨w.heap.size, 0, none⟩) (N + 1) (grownCap w (N + 1) c 51)) (w.drew.alloc (.cells ((cel (l.take i)).toArray ++ Builtin.zeroCells (Value.agg #[.int .i64 0, .int .i64 0]).cells (N + 1 - i) ++ Builtin.zeroCells (Value.agg #[.int .i64 0, .int .i64 0]).cells (grownCap w (N + 1) c 51 - (N + 1))) 51)) := fun ty => by
    have h := Lib.run_append_grow_zeros w 24 3 ty 51 i0 _ .i64 .i64 Try.underlying24 Try.underlying3 hi0 hz0 (some ⟨q, o, none⟩) i c (cel (l.take i)) hold (N + 1 - i) (by omega) (by omega) (by omega) (by omega) (by rw [hz2]; omega) (by rw [hz2, hik]; exact growslice_fits hc (by omega))
    rw [hik] at h
    rw [hkk]
    exact h
  obtain ⟨G, hG⟩ : ∃ G, grownCap w (N + 1) c 51 = G := ⟨_, rfl⟩
  rw [hG] at hrz hG1 hG2
  obtain ⟨ROW, hROW⟩ : ∃ ROW : Array Value, (cel (l.take i)).toArray ++ Builtin.zeroCells (Value.agg #[.int .i64 0, .int .i64 0]).cells (N + 1 - i) ++ Builtin.zeroCells (Value.agg #[.int .i64 0, .int .i64 0]).cells (G - (N + 1)) = ROW := ⟨_, rfl⟩
  rw [hROW] at hrz
  have hRs : G * 2 ≤ ROW.size := by
    rw [← hROW, Array.size_append, Array.size_append, size_zeroCells, size_zeroCells]
    simp only [List.size_toArray, htl, Value.cells]
    simp
    omega
  have hR0 : At ROW 0 (cel (l.take i)) := fun j v hv => by
    rw [Nat.zero_add, ← hROW, Array.append_assoc, Array.getElem?_append_left (by simpa using (List.getElem?_eq_some_iff.1 hv).1)]
    simpa using hv
  obtain ⟨W1, hW1⟩ : ∃ W1, (w.alloc (.cells ROW 51)).drew = W1 := ⟨_, rfl⟩
  have hB1 : Blk W1 w.heap.size 51 ROW := by rw [← hW1]; exact (Blk.new w 51 ROW).drew
  have hK1 : Kp (· = q) w W1 := by rw [← hW1]; exact ((Kp.refl _ w).alloc _).drew
  have hne : q ≠ w.heap.size := Nat.ne_of_lt hb.lt
  have hb1 : Blk W1 q 51 C := by rw [← hW1]; exact (hb.alloc _).drew
  have hx1 : Blk W1 vb 51 #[.int .i64 x.1, .int .i64 x.2] := by rw [← hW1]; exact (hx.alloc _).drew
  have hvne : vb ≠ w.heap.size := Nat.ne_of_lt hx.lt
  have h2 : (cel [x]).length = 2 := rfl
  have hcpA : ∀ ty dc, (Builtin.copy_ #[24, 24] ty #[.slice (some ⟨w.heap.size, i * 2, none⟩) (N + 1 - i) dc, .slice (some ⟨vb, 0, none⟩) 1 1]).run Try.prog W1 = .ok (goInt (1 : Nat)) (W1.setCells w.heap.size (i * 2) (cel [x])) := fun ty dc =>
    run_copy_any W1 24 24 ty 51 2 w.heap.size (i * 2) _ dc ⟨vb, 0, none⟩ _ 1 1 (cel [x]) Try.underlying24 (by kernel_rfl) (by show min _ _ = _; omega) rfl
      (fun j v hj => by rw [addr_add, hx1.cell, Nat.zero_add]; rw [cel_one] at hj; simpa using hj)
      (fun j hj => by rw [hB1.cell, Array.getElem?_eq_getElem (by omega)]; rfl) (fun j _ => hB1.frozen _) (cel_one' _)
  obtain ⟨W2, hW2⟩ : ∃ W2, (W1.setCells w.heap.size (i * 2) (cel [x])).drew = W2 := ⟨_, rfl⟩
  have hB2 : Blk W2 w.heap.size 51 (lay ROW (i * 2) (cel [x])) := by rw [← hW2]; exact (blk_setCells _ _ _ _ hB1).drew
  have hK2 : Kp (· = q) w W2 := by rw [← hW2]; exact (kp_setCells _ _ _ hK1 (.inr (Nat.le_refl _))).drew
  have hb2 : Blk W2 q 51 C := by rw [← hW2]; exact (blk_kp hb1 (kp_setCells (S := (· = w.heap.size)) (cel [x]) W1 (i * 2) (Kp.refl _ W1) (.inl rfl)) hne).drew
  have hcpB : ∀ ty dc sc, (Builtin.copy_ #[24, 24] ty #[.slice (some ⟨w.heap.size, (i + 1) * 2, none⟩) (N - i) dc, .slice (some ⟨q, o + i * 2, none⟩) (N - i) sc]).run Try.prog W2 = .ok (goInt ((N - i : Nat) : Int)) (W2.setCells w.heap.size ((i + 1) * 2) (cel (l.drop i))) := fun ty dc sc =>
    run_copy_any W2 24 24 ty 51 2 w.heap.size ((i + 1) * 2) _ dc ⟨q, o + i * 2, none⟩ _ sc (N - i) (cel (l.drop i)) Try.underlying24 (by kernel_rfl) (by show min _ _ = _; omega) hdl
      (fun j v hj => by rw [addr_add, hb2.cell]; exact hCd j v hj)
      (fun j hj => by rw [hB2.cell, Array.getElem?_eq_getElem (by rw [lay_size]; omega)]; rfl) (fun j _ => hB2.frozen _) (cel_one' _)
  have hfin : Post q l i x w (.returned (.slice (some ⟨w.heap.size, 0, none⟩) (N + 1) G)) (W2.setCells w.heap.size ((i + 1) * 2) (cel (l.drop i))) := by
    have hll := len_ins l i x (by omega)
    rw [hN] at hll
    refine ⟨⟨_, w.heap.size, rfl, ⟨0, G, _, by rw [hll], blk_setCells _ _ _ _ hB2, by rw [hll]; omega, hG2, by rw [lay_size, lay_size]; omega, ?_⟩, .inr (Nat.le_refl _)⟩, kp_setCells _ _ _ hK2 (.inr (Nat.le_refl _))⟩
    rw [cel_append, show x :: l.drop i = [x] ++ l.drop i from rfl, cel_append]
    refine At.app (At.apart (At.apart hR0 (.inl (by rw [htl]; omega))) (.inl (by rw [htl]; omega))) (At.app (At.apart ?_ (.inl (by rw [htl, h2]; omega))) ?_)
    · rw [htl, Nat.zero_add]; exact at_lay (by rw [h2]; omega)
    · rw [htl, h2, show 0 + i * 2 + 2 = (i + 1) * 2 by omega]; exact at_lay (by rw [lay_size, hdl]; omega)
  subst hW1
  subst hW2
  have HF := Lib.hid hfin
  have HR := Lib.hid hrz
  have hz2 : ¬ ((i : Int) = (N : Int)) := by omega
  have hz3 : (c : Int) < (N : Int) + 1 := by omega
  have hin : i ≤ N := by omega
  have hw1 : IntKind.i64.wrap ((i : Int) + 1) = (i : Int) + 1 := by rw [IntKind.wrap_i64]; omega
  have hp1 : (0 : Int) ≤ (i : Int) + 1 := by omega
  have hp2 : (i : Int) ≤ (N : Int) + 1 := by omega
  have htn : ((i : Int) + 1).toNat = i + 1 := by omega
  unfold maxLen at hG2
  have hGi : ¬ (G = i) := by omega
  have hGim : ¬ (G = i + 1) := by omega
  have hci : ¬ (c = i) := by omega
  clear hfin hrz hB1 hB2 hK1 hK2 hb hb1 hb2 hx hx1 hne hvne hR0 hRs hROW hold hCd hCt hdl htl hC hG hkk hik h2
  go_enter Try.func21, Try.ntmps21
  go_wp2_with (at_builtin; refine Lib.wpList_append_run _ rfl _ _ _ _ rfl _ _ rfl rfl _ _ (HR.out _) ?_)
  go_region
  go_wp2
  go_ret
  exact HF.out
/-- slices.Insert. -/
theorem insert_ok (v : Value) (q : Nat) (l : List One) (i vb : Nat) (x : One) (w : World) (hR : Rn w v q l) (hi : i ≤ l.length) (hl : l.length ≤ 1000) (hx : Blk w vb 51 #[.int .i64 x.1, .int .i64 x.2]) (hne : vb ≠ q) :
    Calls Try.prog 21 #[v, .int .i64 i, .slice (some ⟨vb, 0, none⟩) 1 1] w (Post q l i x w) := by
  have hR' := hR
  rcases hR with ⟨rfl, rfl⟩ | ⟨o, c, C, rfl, hb, hc, hm, hs, hC⟩
  · have : i = 0 := by simpa using hi
    subst this
    exact grow_end_ok none q 0 [] vb x w hR' (by simp) (by simp) hx
  · by_cases he : i = l.length
    · subst he
      by_cases hroom : l.length + 1 ≤ c
      · exact room_ok q o c C l vb x w hb hroom hm hs hC hx
      · exact grow_end_ok _ q c l vb x w hR' (by omega) hl hx
    · by_cases hroom : l.length + 1 ≤ c
      · exact shift_ok q o c C l i vb x w hb hroom hm hs hC (by omega) hx hne
      · exact grow_mid_ok q o c C l i vb x w hb hc (by omega) hl hC (by omega) hx
end Go.Proofs.Ytmheabnpkbhadaa.Is
