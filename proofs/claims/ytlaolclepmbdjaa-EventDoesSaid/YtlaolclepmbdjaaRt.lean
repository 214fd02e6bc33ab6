/- The reference's Log.Tag: a label is taken in. -/
import Derived.Test.YtlaolclepmbdjaaRl
import Derived.Test.YtlaolclepmbdjaaAp
import Derived.Test.YtlaolclepmbdjaaSp
namespace Go.Proofs.Ytlaolclepmbdjaa.Rt
open Go.RowKit Go.Proofs.Ytlaolclepmbdjaa.Bk Go.Proofs.Ytlaolclepmbdjaa.Rw Go.Proofs.Ytlaolclepmbdjaa.Ow Go.Proofs.Ytlaolclepmbdjaa.Kp Go.Proofs.Ytlaolclepmbdjaa.Ck Go.Proofs.Ytlaolclepmbdjaa.Ck2 Go.Proofs.Ytlaolclepmbdjaa.Evr Go.Proofs.Ytlaolclepmbdjaa.Label Go.Proofs.Ytlaolclepmbdjaa.Sp Go.Proofs.Ytlaolclepmbdjaa.Ap Go.Proofs.Ytlaolclepmbdjaa.Rl

theorem vi_cell (q : List Ev) : ∀ u ∈ vi q, u.oneCell' = true := fun u hu => by
  obtain ⟨e, _, rfl⟩ := List.mem_map.1 hu
  rfl
theorem vl_cell (q : List Ev) : ∀ u ∈ vl q, u.oneCell' = true := fun u hu => by
  obtain ⟨e, _, rfl⟩ := List.mem_map.1 hu
  rfl
theorem one_cell_i (x : Int) : ∀ u ∈ [Value.int .i64 x], u.oneCell' = true := fun u hu => by
  rw [List.mem_singleton.1 hu]
  rfl
theorem one_cell_s (x : ByteArray) : ∀ u ∈ [Value.string x], u.oneCell' = true := fun u hu => by
  rw [List.mem_singleton.1 hu]
  rfl
set_option maxRecDepth 100000 in
set_option maxHeartbeats 1600000 in
theorem rtag_ok (B1 m : Nat) (q : List Ev) (last : Int) (s : ByteArray) (hs : s.size ≤ 140737488355328) (hl : Lab s = true) (w : World) (h : Rl w B1 m q last) (hm : m < B1) (hB : B1 ≤ w.heap.size) (hq : q.length < 16) (hw : IntKind.i64.wrap (last + 1) = last + 1) (e : Ev) (he : e.id = last + 1) (hes : e.lab = s) :
    Calls Try.prog 15 #[.pointer (some ⟨m, 0, none⟩), .string s] w fun x w' => x = .returned (.tuple #[.int .i64 (last + 1), .int .i64 0]) ∧ Rl w' B1 m (q ++ [e]) (last + 1) ∧ Kp (fun k => k = m) w w' := by
  have CG := Lib.hid (fun w => hl ▸ refgood_ok s w hs)
  have H := Lib.hid h
  have n1 : ¬ (16 : Int) ≤ (q.length : Int) := by omega
  have n2 : decide ((16 : Int) ≤ (q.length : Int)) = false := by simp; omega
  clear hl h
  go_enter Try.func15, Try.ntmps15
  go_wp2_with fail
  refine (CG.out _).mono ?_
  rintro e w1 ⟨rfl, rfl⟩
  obtain ⟨A, c, A2, c2, h1, h2, h3⟩ := H.out
  have c0 := h1.cell 0
  have c1 := h1.cell 1
  have c2' := h1.cell 2
  have f2 := h1.frozen 2
  have H1 := Lib.hid h1
  have H2 := Lib.hid h2
  have H3 := Lib.hid h3
  clear h1 h2 h3
  go_upto_region 6 with fail
  have HM2 := Lib.hid (show Blk (w.setCell ⟨m, 2, none⟩ (.int .i64 (last + 1))) m 49 #[.slice A q.length c, .slice A2 q.length c2, .int .i64 (last + 1)] from H1.out.set_ 2 _)
  have HK2 := Lib.hid (show Kp (fun k => k = m) w (w.setCell ⟨m, 2, none⟩ (.int .i64 (last + 1))) from kp_set (.inl rfl) (Kp.refl _ _))
  have HS2 := Lib.hid (H2.out.kp HK2.out (fun k hk e => by omega))
  have HS3 := Lib.hid (H3.out.kp HK2.out (fun k hk e => by omega))
  have HSZ := Lib.hid (show (w.setCell ⟨m, 2, none⟩ (.int .i64 (last + 1))).heap.size = w.heap.size from size_set _ _)
  clear H1 H2 H3 c0 c1 c2' f2 H
  generalize w.setCell ⟨m, 2, none⟩ (.int .i64 (last + 1)) = w2 at *
  have HS := Lib.hid (show ∀ W, Kp (fun _ => False) w2 W → W.cell? ⟨m, 0, none⟩ = some (.slice A q.length c) ∧ W.cell? ⟨m, 2, none⟩ = some (.int .i64 (last + 1)) from fun W hk => ⟨(blk_kp HM2.out hk (fun h => h)).cell 0, (blk_kp HM2.out hk (fun h => h)).cell 2⟩)
  have HR := Lib.hid (show ∀ W, Kp (fun _ => False) w2 W → Reads W W.heap.size 1 A q.length (vi q) from fun W hk => (HS2.out.kp hk (fun _ _ h => h)).reads)
  go_cut [] (fun wx => ∃ A' c', Blk wx m 49 #[.slice A' (q.length + 1) c', .slice A2 q.length c2, .int .i64 (last + 1)] ∧ Sv wx B1 A' (q.length + 1) c' (vi q ++ [.int .i64 (last + 1)]) ∧ Sv wx B1 A2 q.length c2 (vl q) ∧ Kp (fun k => k = m) w wx)
  case first =>
    have K0 := Lib.hid (show Kp (fun _ => False) w2 w2.drew from (Kp.refl _ _).drew)
    refine wp_region_tc 15 (.st true 0 (.st true 2 (.st true 3 (.st true 4 (.st true 5 (.st true 7 (.st true 8 (.st true 9 (.st true 10 (.two 1 11 (.two 6 11 (.st false 11 (.st false 12 (.st true 13 (.st true 14 (.fin []))))) (.st false 6 (.st false 12 (.st true 13 (.st true 14 (.fin [])))))) (.st false 1 (.st false 6 (.st false 12 (.st true 13 (.st true 14 (.fin [])))))))))))))))) (fun w' => w'.cell? ⟨m, 0, none⟩ = some (.slice A q.length c) ∧ w'.cell? ⟨m, 2, none⟩ = some (.int .i64 (last + 1))) (by kernel_rfl) (by kernel_rfl) (HS.out _ K0.out) ?_
    simp only [Tc.res, List.map_cons, List.map_nil, List.getElem?_toArray, List.getElem?_cons_zero, List.getElem?_cons_succ]
    repeat (first | (refine tc_take (v := ?_) (by rfl) ?_ ?_; rotate_left; (focus ((intro w hSw; (try dsimp only at hSw); go_simp; (try with_reducible rfl)); done)); try simp only [Act.put, List.setIfInBounds_toArray, List.set_cons_zero, List.set_cons_succ]))
    refine tc_two ?_ ?_
    · refine tc_do (fun K hK => ?_)
      go_simp
      refine hK.out _ _ (HS.out _ (K0.out.alloc _)) (fun hHeld1 => ?_)
      clear hK K hHeld1
      have K1 := Lib.hid (K0.out.alloc (.cells #[] 3))
      have O1 := Lib.hid (own_empty w2.drew w2 3 K0.out.size)
      refine tc_two ?_ ?_
      · refine tc_do (fun K hK => ?_)
        refine step_app 3 w2 _ (.int .i64 0) 8 rfl _ _ 46 rfl Try.underlying46 (by kernel_rfl) rfl _ _ _ _ _ _ _ rfl rfl O1.out (HR.out _ K1.out) (vi_cell q) (by omega) (by decide) K1.out ?_
        intro v6 w6 ho hk6 hk6'
        rw [Nat.zero_add, List.nil_append] at ho
        have K6 := Lib.hid hk6
        have O6 := Lib.hid ho
        clear ho hk6 hk6'
        refine hK.out _ _ (HS.out _ K6.out) (fun hHeld1 => ?_)
        clear hK K hHeld1
        refine tc_do (fun K hK => ?_)
        go_simp
        have K7 := Lib.hid (K6.out.alloc (.cells #[.int .i64 (last + 1)] 3))
        have O7 := Lib.hid (own_alloc O6.out (.cells #[.int .i64 (last + 1)] 3))
        have X7 := Lib.hid (One.new w6 3 (.int .i64 (last + 1)))
        refine hK.out _ _ (HS.out _ K7.out) (fun hHeld1 => ?_)
        clear hK K hHeld1
        refine tc_do (fun K hK => ?_)
        refine step_app 3 w2 _ (.int .i64 0) 8 rfl _ _ 46 rfl Try.underlying46 (by kernel_rfl) rfl _ _ _ _ _ _ _ rfl rfl O7.out X7.out.reads (one_cell_i _) (by omega) (by decide) K7.out ?_
        intro v8 w8 ho hk8 hk8'
        have HKV := Lib.hid hk8
        have HV := Lib.hid ho
        clear ho hk8 hk8' K7 O7 X7 K6 O6 K1 O1 K0
        refine hK.out _ _ (HS.out _ HKV.out) (fun hHeld1 => ?_)
        clear hK K hHeld1
        repeat (first | (refine tc_take (v := ?_) (by rfl) ?_ ?_; rotate_left; (focus ((intro w hSw; (try dsimp only at hSw); go_simp; (try with_reducible rfl)); done)); try simp only [Act.put, List.setIfInBounds_toArray, List.set_cons_zero, List.set_cons_succ]))
        obtain ⟨A7, c7, rfl⟩ := own_form HV.out
        have hx := blk_kp HM2.out HKV.out (fun h => h)
        have e0 := hx.cell 0
        have g0 := hx.frozen 0
        have HM7 := Lib.hid hx
        clear hx
        refine tc_end (fun K hK => ?_)
        go_simp
        refine hK.out _ _ (tc_done ?_)
        clear hK K
        go_wp2
        go_meet
        exact ⟨_, _, HM7.out.set_ 0 _, (Sv.of_own HV.out (by rw [HSZ.out]; exact hB)).kp (S := fun k => k = m) (kp_set (.inl rfl) (Kp.refl _ _)) (fun k hk e => by omega), (HS3.out.kp HKV.out (fun _ _ h => h)).kp (S := fun k => k = m) (kp_set (.inl rfl) (Kp.refl _ _)) (fun k hk e => by omega), (HK2.out.trans (HKV.out.mono (fun _ _ h => h.elim))).trans (kp_set (.inl rfl) (Kp.refl _ _))⟩
      · refine tc_do (fun K hK => ?_)
        go_simp
        have K6 := Lib.hid (K1.out.alloc (.cells #[.int .i64 (last + 1)] 3))
        have O6 := Lib.hid (own_alloc O1.out (.cells #[.int .i64 (last + 1)] 3))
        have hx6 := One.new (w2.drew.alloc (.cells #[] 3)) 3 (.int .i64 (last + 1))
        rw [World.size_alloc, size_drew] at hx6
        have X6 := Lib.hid hx6
        clear hx6
        refine hK.out _ _ (HS.out _ K6.out) (fun hHeld1 => ?_)
        clear hK K hHeld1
        refine tc_do (fun K hK => ?_)
        refine step_app 3 w2 _ (.int .i64 0) 8 rfl _ _ 46 rfl Try.underlying46 (by kernel_rfl) rfl _ _ _ _ _ _ _ rfl rfl O6.out (HR.out _ K6.out) (vi_cell q) (by omega) (by decide) K6.out ?_
        intro v7 w7 ho hk7 hk7'
        rw [Nat.zero_add, List.nil_append] at ho
        have K7 := Lib.hid hk7
        have O7 := Lib.hid ho
        have X7 := Lib.hid (X6.out.kp hk7' (fun h => by have h : some w2.heap.size = some (w2.heap.size + 1) := h; simp at h))
        clear ho hk7 hk7'
        refine hK.out _ _ (HS.out _ K7.out) (fun hHeld1 => ?_)
        clear hK K hHeld1
        refine tc_do (fun K hK => ?_)
        refine step_app 3 w2 _ (.int .i64 0) 8 rfl _ _ 46 rfl Try.underlying46 (by kernel_rfl) rfl _ _ _ _ _ _ _ rfl rfl O7.out X7.out.reads (one_cell_i _) (by omega) (by decide) K7.out ?_
        intro v8 w8 ho hk8 hk8'
        have HKV := Lib.hid hk8
        have HV := Lib.hid ho
        clear ho hk8 hk8' K7 O7 X7 K6 O6 X6 K1 O1 K0
        refine hK.out _ _ (HS.out _ HKV.out) (fun hHeld1 => ?_)
        clear hK K hHeld1
        repeat (first | (refine tc_take (v := ?_) (by rfl) ?_ ?_; rotate_left; (focus ((intro w hSw; (try dsimp only at hSw); go_simp; (try with_reducible rfl)); done)); try simp only [Act.put, List.setIfInBounds_toArray, List.set_cons_zero, List.set_cons_succ]))
        obtain ⟨A7, c7, rfl⟩ := own_form HV.out
        have hx := blk_kp HM2.out HKV.out (fun h => h)
        have e0 := hx.cell 0
        have g0 := hx.frozen 0
        have HM7 := Lib.hid hx
        clear hx
        refine tc_end (fun K hK => ?_)
        go_simp
        refine hK.out _ _ (tc_done ?_)
        clear hK K
        go_wp2
        go_meet
        exact ⟨_, _, HM7.out.set_ 0 _, (Sv.of_own HV.out (by rw [HSZ.out]; exact hB)).kp (S := fun k => k = m) (kp_set (.inl rfl) (Kp.refl _ _)) (fun k hk e => by omega), (HS3.out.kp HKV.out (fun _ _ h => h)).kp (S := fun k => k = m) (kp_set (.inl rfl) (Kp.refl _ _)) (fun k hk e => by omega), (HK2.out.trans (HKV.out.mono (fun _ _ h => h.elim))).trans (kp_set (.inl rfl) (Kp.refl _ _))⟩
    · refine tc_do (fun K hK => ?_)
      go_simp
      refine hK.out _ _ (HS.out _ (K0.out.alloc _)) (fun hHeld1 => ?_)
      clear hK K hHeld1
      have K1 := Lib.hid (K0.out.alloc (.cells #[.int .i64 (last + 1)] 3))
      have X1 := Lib.hid (One.new w2.drew 3 (.int .i64 (last + 1)))
      refine tc_do (fun K hK => ?_)
      go_simp
      have K6 := Lib.hid (K1.out.alloc (.cells #[] 3))
      have ho6 := own_empty (w2.drew.alloc (.cells #[.int .i64 (last + 1)] 3)) w2 3 K1.out.size
      rw [World.size_alloc, size_drew] at ho6
      have O6 := Lib.hid ho6
      clear ho6
      have X6 := Lib.hid (X1.out.alloc (.cells #[] 3))
      refine hK.out _ _ (HS.out _ K6.out) (fun hHeld1 => ?_)
      clear hK K hHeld1
      refine tc_do (fun K hK => ?_)
      refine step_app 3 w2 _ (.int .i64 0) 8 rfl _ _ 46 rfl Try.underlying46 (by kernel_rfl) rfl _ _ _ _ _ _ _ rfl rfl O6.out (HR.out _ K6.out) (vi_cell q) (by omega) (by decide) K6.out ?_
      intro v7 w7 ho hk7 hk7'
      rw [Nat.zero_add, List.nil_append] at ho
      have K7 := Lib.hid hk7
      have O7 := Lib.hid ho
      have X7 := Lib.hid (X6.out.kp hk7' (fun h => by have h : some (w2.heap.size + 1) = some w2.drew.heap.size := h; rw [size_drew] at h; simp at h))
      clear ho hk7 hk7'
      refine hK.out _ _ (HS.out _ K7.out) (fun hHeld1 => ?_)
      clear hK K hHeld1
      refine tc_do (fun K hK => ?_)
      refine step_app 3 w2 _ (.int .i64 0) 8 rfl _ _ 46 rfl Try.underlying46 (by kernel_rfl) rfl _ _ _ _ _ _ _ rfl rfl O7.out X7.out.reads (one_cell_i _) (by omega) (by decide) K7.out ?_
      intro v8 w8 ho hk8 hk8'
      have HKV := Lib.hid hk8
      have HV := Lib.hid ho
      clear ho hk8 hk8' K7 O7 X7 K6 O6 X6 K1 X1 K0
      refine hK.out _ _ (HS.out _ HKV.out) (fun hHeld1 => ?_)
      clear hK K hHeld1
      repeat (first | (refine tc_take (v := ?_) (by rfl) ?_ ?_; rotate_left; (focus ((intro w hSw; (try dsimp only at hSw); go_simp; (try with_reducible rfl)); done)); try simp only [Act.put, List.setIfInBounds_toArray, List.set_cons_zero, List.set_cons_succ]))
      obtain ⟨A7, c7, rfl⟩ := own_form HV.out
      have hx := blk_kp HM2.out HKV.out (fun h => h)
      have e0 := hx.cell 0
      have g0 := hx.frozen 0
      have HM7 := Lib.hid hx
      clear hx
      refine tc_end (fun K hK => ?_)
      go_simp
      refine hK.out _ _ (tc_done ?_)
      clear hK K
      go_wp2
      go_meet
      exact ⟨_, _, HM7.out.set_ 0 _, (Sv.of_own HV.out (by rw [HSZ.out]; exact hB)).kp (S := fun k => k = m) (kp_set (.inl rfl) (Kp.refl _ _)) (fun k hk e => by omega), (HS3.out.kp HKV.out (fun _ _ h => h)).kp (S := fun k => k = m) (kp_set (.inl rfl) (Kp.refl _ _)) (fun k hk e => by omega), (HK2.out.trans (HKV.out.mono (fun _ _ h => h.elim))).trans (kp_set (.inl rfl) (Kp.refl _ _))⟩
  case rest =>
    obtain ⟨A3, c3, h1, h2, h3, h4⟩ := hcut
    have H1 := Lib.hid h1
    have H2 := Lib.hid h2
    have H3 := Lib.hid h3
    have H4 := Lib.hid h4
    have y0 := (h1.alloc (.cells #[] 9)).cell 1
    clear h1 h2 h3 h4 HM2 HK2 HS2 HS3 HSZ HS HR
    rename_i wc
    have K1 := Lib.hid ((Kp.refl (fun _ => False) wc).alloc (.cells #[] 9))
    have O1 := Lib.hid (own_empty wc wc 9 (Nat.le_refl _))
    go_wp2_with (at_builtin; refine wp_app 9 wc _ (.string ByteArray.empty) 16 rfl _ _ 47 rfl Try.underlying47 (by kernel_rfl) rfl _ _ _ _ _ _ _ rfl rfl O1.out (H3.out.kp K1.out (fun _ _ h => h)).reads (vl_cell q) (by omega) (by decide) K1.out ?_)
    intro v6 w6 ho hk6 hk6'
    have K6 := Lib.hid hk6
    have O6 := Lib.hid ho
    clear ho hk6 hk6' y0
    have O7 := Lib.hid (own_alloc O6.out (.cells #[.string s] 9))
    have X7 := Lib.hid (One.new w6 9 (.string s))
    have K7 := Lib.hid (K6.out.alloc (.cells #[.string s] 9))
    go_wp2_with (at_builtin; refine wp_app 9 wc _ (.string ByteArray.empty) 16 rfl _ _ 47 rfl Try.underlying47 (by kernel_rfl) rfl _ _ _ _ _ _ _ rfl rfl O7.out X7.out.reads (one_cell_s _) (by omega) (by decide) K7.out ?_)
    intro v8 w8 ho hk8 hk8'
    obtain ⟨A5, c5, rfl⟩ := own_form ho
    have K8 := Lib.hid hk8
    have O8 := Lib.hid ho
    have hx := blk_kp H1.out hk8 (fun h => h)
    have e1 := hx.cell 1
    have e2 := hx.cell 2
    have g1 := hx.frozen 1
    have HM := Lib.hid hx
    clear ho hk8 hk8' hx K7 X7 O7 K6 O6 O1 K1
    go_wp2
    go_ret2
    have hid : vi (q ++ [e]) = vi q ++ [.int .i64 (last + 1)] := by simp [vi, he]
    have hlb : vl (q ++ [e]) = vl q ++ [.string s] := by simp [vl, hes]
    have hll : (q ++ [e]).length = q.length + 1 := by simp
    refine ⟨rfl, ⟨A3, c3, A5, c5, by rw [hll]; exact HM.out.set_ 1 _, ?_, ?_⟩, H4.out.trans ((K8.out.mono (fun _ _ h => h.elim)).trans (kp_set (.inl rfl) (Kp.refl _ _)))⟩
    · rw [hll, hid]
      exact (H2.out.kp K8.out (fun _ _ h => h)).kp (S := fun k => k = m) (kp_set (.inl rfl) (Kp.refl _ _)) (fun k hk e => by omega)
    · rw [hll, hlb]
      exact (Sv.of_own O8.out (Nat.le_trans hB H4.out.size)).kp (S := fun k => k = m) (kp_set (.inl rfl) (Kp.refl _ _)) (fun k hk e => by omega)
end Go.Proofs.Ytlaolclepmbdjaa.Rt
