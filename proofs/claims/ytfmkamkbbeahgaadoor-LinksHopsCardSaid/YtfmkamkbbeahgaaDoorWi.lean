/- Wide: the greatest distance over a set. -/
import Derived.Test.YtfmkamkbbeahgaaDoorWn
import Derived.Test.YtfmkamkbbeahgaaDoorRb2
import Derived.Test.YtfmkamkbbeahgaaDoorNu
namespace Go.Proofs.YtfmkamkbbeahgaaDoor.Wi
open Go.RowKit Go.Shelf Go.Proofs.YtfmkamkbbeahgaaDoor.Si Go.Proofs.YtfmkamkbbeahgaaDoor.Bk Go.Proofs.YtfmkamkbbeahgaaDoor.Rw Go.Proofs.YtfmkamkbbeahgaaDoor.Ow Go.Proofs.YtfmkamkbbeahgaaDoor.Kp Go.Proofs.YtfmkamkbbeahgaaDoor.Rb Go.Proofs.YtfmkamkbbeahgaaDoor.Bl Go.Proofs.YtfmkamkbbeahgaaDoor.Tz Go.Proofs.YtfmkamkbbeahgaaDoor.Ea Go.Proofs.YtfmkamkbbeahgaaDoor.Lk Go.Proofs.YtfmkamkbbeahgaaDoor.Hm Go.Proofs.YtfmkamkbbeahgaaDoor.Ho Go.Proofs.YtfmkamkbbeahgaaDoor.Wn
attribute [local go_sem] Oper.semAt_some
/-- The greatest of a row's numbers at some places. -/
def mx (H : List Int) (m : Int) (l : List Nat) : Int := l.foldl (fun m k => max m (H.getD k (-1))) m
def mo (a : List Nat) (s : Nat) (E : List Nat) (m : Int) (l : List Nat) : Int := l.foldl (fun m (i : Nat) => mx (hops a i s) m E) m
/-- Do all reach one another? -/
def good (a : List Nat) (s : Nat) (E l : List Nat) : Prop := ∀ i ∈ l, ∀ k ∈ E, 0 ≤ (hops a (i : Nat) s).getD k (-1)
/-- What Wide answers. -/
def Wd (a : List Nat) (s : Nat) (v : Int) (o : Bool) : Prop :=
  if s &&& (2 ^ a.length - 1) = 0 then v = 0 ∧ o = false
  else (o = true ∧ good a s (bl (s &&& (2 ^ a.length - 1))) (bl (s &&& (2 ^ a.length - 1))) ∧ v = mo a s (bl (s &&& (2 ^ a.length - 1))) 0 (bl (s &&& (2 ^ a.length - 1)))) ∨
    (o = false ∧ v = 0 ∧ ¬ good a s (bl (s &&& (2 ^ a.length - 1))) (bl (s &&& (2 ^ a.length - 1))))
/-- Wide's two results. -/
def WdE (a : List Nat) (s : Nat) (e : Ending) : Prop := ∃ v o, e = .returned (.tuple #[.int .i64 v, .bool o]) ∧ Wd a s v o
theorem res_wide (tmps : Array Value) (W : World) (b c : Nat) (v : Int) (o : Bool) (h4 : tmps.getD 4 undef = .pointer (some ⟨b, 0, none⟩)) (h5 : tmps.getD 5 undef = .pointer (some ⟨c, 0, none⟩))
    (hb : Blk W b 3 #[.int .i64 v]) (hc : Blk W c 4 #[.bool o]) : (results Tryd.f18 tmps).run Tryd.prog W = .ok (.tuple #[.int .i64 v, .bool o]) W := by
  have q0 : W.cell? ⟨b, 0, none⟩ = some (.int .i64 v) := hb.cell 0
  have q1 : W.cell? ⟨c, 0, none⟩ = some (.bool o) := hc.cell 0
  rw [Array.getD_eq_getD_getElem?] at h4 h5
  simp [results, Tryd.results18, go_sem, h4, h5, q0, q1]
set_option maxRecDepth 100000 in
set_option maxHeartbeats 4000000 in
theorem wide_ok (p g : Nat) (a : List Nat) (s : Nat) (w : World) (h : Ln w p g a) (hs : s < 2 ^ 64) (hT : Tab w) :
    Calls Tryd.prog 18 #[.pointer (some ⟨p, 0, none⟩), .int .u64 s] w fun e w' => WdE a s e ∧ Below w.heap.size w w' := by
  refine callsIn_wide (n := 6).1 ?_
  have hfn : Fence.wide.fn 18 := trivial
  have h1 : 1 ≤ 6 := by decide
  refine callsIn_of_wp_marks Tryd.func18 rfl hfn ?_ rfl
  simp only [Tryd.ntmps18, List.size_toArray, List.length_cons, List.length_nil, Nat.reduceAdd, Nat.reduceSub, Array.replicate_succ, Array.replicate_zero, List.push_toArray, List.append_toArray, List.nil_append, List.cons_append]
  obtain ⟨W, hW, hsz, hb, b0, b1, b2, b3⟩ := four (some ⟨p, 0, none⟩) s w
  have hhi := h.hi
  have hpg := h.lt
  have hT0 := hT.1
  have HL0 := Lib.hid h
  have HT00 := Lib.hid hT
  have HL := Lib.hid ((h.below hb).drew_)
  have HT := Lib.hid (show Tab W.drew from hT.below hb.drew hT0)
  have HB := Lib.hid (show Below w.heap.size w W.drew from hb.drew)
  have H0 := Lib.hid b0.drew
  have H1 := Lib.hid b1.drew
  have H2 := Lib.hid b2.drew
  have H3 := Lib.hid b3.drew
  have c0 : W.drew.cell? ⟨w.heap.size, 0, none⟩ = some (.pointer (some ⟨p, 0, none⟩)) := b0.drew.cell 0
  have c1 : W.drew.cell? ⟨w.heap.size + 1, 0, none⟩ = some (.int .u64 s) := b1.drew.cell 0
  have c2 := b2.drew.cell 0
  have c3 := b3.drew.cell 0
  have f2 := b2.drew.frozen 0
  have f3 := b3.drew.frozen 0
  have hpn : 2 ^ a.length ≤ 2 ^ 64 := Nat.pow_le_pow_right (by decide) hhi
  have hE : bits BinOp.and IntKind.u64 (s : Int) ((2 ^ a.length - 1 : Nat) : Int) = ((s &&& (2 ^ a.length - 1) : Nat) : Int) := bits_and_u64_nat s _ hs (by have := Nat.two_pow_pos a.length; omega)
  have CA := Lib.hid (fun w' (hl : Ln w' p g a) => all_any (some ⟨p, 0, none⟩) a w' (.inr ⟨p, g, rfl, hl⟩) hhi)
  obtain ⟨M, hM⟩ : ∃ M, 2 ^ a.length - 1 = M := ⟨_, rfl⟩
  have HWD := Lib.hid (show ∀ v o, (if s &&& M = 0 then v = 0 ∧ o = false else (o = true ∧ good a s (bl (s &&& M)) (bl (s &&& M)) ∧ v = mo a s (bl (s &&& M)) 0 (bl (s &&& M))) ∨ (o = false ∧ v = 0 ∧ ¬ good a s (bl (s &&& M)) (bl (s &&& M)))) → Wd a s v o from fun v o hh => by unfold Wd; rw [hM]; exact hh)
  rw [hM] at CA hE
  have HEL := Lib.hid (show ∀ k, k ∈ bl (s &&& M) → k < a.length from fun k hk => by
    rw [← hM] at hk
    have hb := (bl_mem.1 hk).2
    rw [Nat.testBit_and, Bool.and_eq_true] at hb
    have := hb.2
    rw [Nat.testBit_two_pow_sub_one] at this
    simpa using this)
  have he64 : s &&& M < 2 ^ 64 := Nat.lt_of_le_of_lt Nat.and_le_left hs
  obtain ⟨e0, he0⟩ : ∃ e0, s &&& M = e0 := ⟨_, rfl⟩
  rw [he0] at hE HWD HEL he64
  have HE64 := Lib.hid he64
  clear h hT hb b0 b1 b2 b3 hpn he0 he64 hM
  gi_wp2
  clear hW
  have hws : W.heap.size = W.drew.heap.size := rfl
  obtain ⟨V, hV⟩ : ∃ V, W.drew = V := ⟨_, rfl⟩
  rw [hV] at HL HT HB H0 H1 H2 H3 c0 c1 c2 c3 f2 f3 hws
  by_cases hz : e0 = 0
  · subst hz
    refine wpIn_region_seq [(0, true), (1, true), (2, true), (3, true), (4, true), (5, false), (6, true), (7, true)] 8 [] (fun w' => w'.cell? ⟨w.heap.size, 0, none⟩ = some (.pointer (some ⟨p, 0, none⟩)) ∧ w'.cell? ⟨w.heap.size + 1, 0, none⟩ = some (.int .u64 s)) (by kernel_rfl) (by kernel_rfl) (by rw [hV]; exact ⟨c0, c1⟩) ?_
    rw [hV]
    clear hV
    simp only [List.map_cons, List.map_nil, List.getElem?_toArray, List.getElem?_cons_zero, List.getElem?_cons_succ]
    repeat (first | (refine si_skip (by rfl) (fun _ => rfl) ?_; try simp only [Act.put, List.setIfInBounds_toArray, List.set_cons_zero, List.set_cons_succ]) | (refine si_take (v := ?_) (by rfl) (fun _ => rfl) ?_ ?_; rotate_left; (focus ((intro w hSw; (try dsimp only at hSw); go_simp; (try with_reducible rfl)); done)); try simp only [Act.put, List.setIfInBounds_toArray, List.set_cons_zero, List.set_cons_succ]))
    refine si_mid (fun K hK => ?_)
    go_simp
    refine ⟨trivial, ?_⟩
    gi_at_call 25
    refine (callsIn_wide.2 (CA.out _ HL.out)).mono ?_
    rintro e w3 ⟨rfl, rfl⟩
    dsimp only
    refine hK.out _ _ ⟨c0, c1⟩ (fun _ => ?_)
    clear hK K
    repeat (first | (refine si_skip (by rfl) (fun _ => rfl) ?_; try simp only [Act.put, List.setIfInBounds_toArray, List.set_cons_zero, List.set_cons_succ]) | (refine si_take (v := ?_) (by rfl) (fun _ => rfl) ?_ ?_; rotate_left; (focus ((intro w hSw; (try dsimp only at hSw); go_simp; (try with_reducible rfl)); done)); try simp only [Act.put, List.setIfInBounds_toArray, List.set_cons_zero, List.set_cons_succ]))
    refine si_round ?_
    refine si_do (fun K hK => ?_)
    go_simp
    refine hK.out _ _ ?_
    clear hK K
    refine si_done ?_
    have d3 : (V.setCell ⟨w.heap.size + 1 + 1, 0, none⟩ (.int .i64 0)).cell? ⟨w.heap.size + 1 + 1 + 1, 0, none⟩ = some (.bool false) := (H3.out.far (p := ⟨w.heap.size + 1 + 1, 0, none⟩) (by show w.heap.size + 1 + 1 + 1 ≠ w.heap.size + 1 + 1; omega) _).cell 0
    have e3 := (H3.out.far (p := ⟨w.heap.size + 1 + 1, 0, none⟩) (by show w.heap.size + 1 + 1 + 1 ≠ w.heap.size + 1 + 1; omega) (.int .i64 0)).frozen 0
    gi_wp2
    refine ⟨_, res_wide _ _ (w.heap.size + 1 + 1) (w.heap.size + 1 + 1 + 1) 0 false rfl rfl ?_ ?_, ⟨_, _, rfl, HWD.out _ _ (by simp)⟩, ?_⟩
    · exact (H2.out.set_ 0 _).far (p := ⟨w.heap.size + 1 + 1 + 1, 0, none⟩) (by show w.heap.size + 1 + 1 ≠ w.heap.size + 1 + 1 + 1; omega) _
    · exact (H3.out.far (p := ⟨w.heap.size + 1 + 1, 0, none⟩) (by show w.heap.size + 1 + 1 + 1 ≠ w.heap.size + 1 + 1; omega) _).set_ 0 _
    · exact (HB.out.setCell (p := ⟨w.heap.size + 1 + 1, 0, none⟩) (by show w.heap.size ≤ w.heap.size + 1 + 1; omega) _).setCell (p := ⟨w.heap.size + 1 + 1 + 1, 0, none⟩) (by show w.heap.size ≤ w.heap.size + 1 + 1 + 1; omega) _
  · have z1 : ((e0 : Int) == 0) = false := by simpa using hz
    have z2 : ¬ ((e0 : Int) = 0) := by omega
    refine wpIn_region_seq [(0, true), (1, true), (2, true), (3, true), (4, true), (5, false), (6, true), (7, true)] 8 [] (fun w' => w'.cell? ⟨w.heap.size, 0, none⟩ = some (.pointer (some ⟨p, 0, none⟩)) ∧ w'.cell? ⟨w.heap.size + 1, 0, none⟩ = some (.int .u64 s)) (by kernel_rfl) (by kernel_rfl) (by rw [hV]; exact ⟨c0, c1⟩) ?_
    rw [hV]
    clear hV
    simp only [List.map_cons, List.map_nil, List.getElem?_toArray, List.getElem?_cons_zero, List.getElem?_cons_succ]
    repeat (first | (refine si_skip (by rfl) (fun _ => rfl) ?_; try simp only [Act.put, List.setIfInBounds_toArray, List.set_cons_zero, List.set_cons_succ]) | (refine si_take (v := ?_) (by rfl) (fun _ => rfl) ?_ ?_; rotate_left; (focus ((intro w hSw; (try dsimp only at hSw); go_simp; (try with_reducible rfl)); done)); try simp only [Act.put, List.setIfInBounds_toArray, List.set_cons_zero, List.set_cons_succ]))
    refine si_mid (fun K hK => ?_)
    go_simp
    refine ⟨trivial, ?_⟩
    gi_at_call 25
    refine (callsIn_wide.2 (CA.out _ HL.out)).mono ?_
    rintro e w3 ⟨rfl, rfl⟩
    dsimp only
    refine hK.out _ _ ⟨c0, c1⟩ (fun _ => ?_)
    clear hK K
    repeat (first | (refine si_skip (by rfl) (fun _ => rfl) ?_; try simp only [Act.put, List.setIfInBounds_toArray, List.set_cons_zero, List.set_cons_succ]) | (refine si_take (v := ?_) (by rfl) (fun _ => rfl) ?_ ?_; rotate_left; (focus ((intro w hSw; (try dsimp only at hSw); go_simp; (try with_reducible rfl)); done)); try simp only [Act.put, List.setIfInBounds_toArray, List.set_cons_zero, List.set_cons_succ]))
    refine si_round ?_
    refine si_do (fun K hK => ?_)
    go_simp
    refine hK.out _ _ ?_
    clear hK K
    refine si_done ?_
    have hvs : w.heap.size + 4 ≤ V.heap.size ∧ V.heap.size ≤ w.heap.size + 4 := by omega
    clear hws hsz
    obtain ⟨V1, hV1⟩ : ∃ V1, V.alloc (.cells #[.int .i64 0] 3) = V1 := ⟨_, rfl⟩
    have v0 : Blk V1.drew w.heap.size 29 #[.pointer (some ⟨p, 0, none⟩)] := by rw [← hV1]; exact (H0.out.alloc _).drew
    have v1 : Blk V1.drew (w.heap.size + 1) 22 #[.int .u64 s] := by rw [← hV1]; exact (H1.out.alloc _).drew
    have v2 : Blk V1.drew (w.heap.size + 1 + 1) 3 #[.int .i64 0] := by rw [← hV1]; exact (H2.out.alloc _).drew
    have v3 : Blk V1.drew (w.heap.size + 1 + 1 + 1) 4 #[.bool false] := by rw [← hV1]; exact (H3.out.alloc _).drew
    have v4 : Blk V1.drew V.heap.size 3 #[.int .i64 0] := by rw [← hV1]; exact (Blk.new V _ _).drew
    have vb : Below w.heap.size w V1.drew := by rw [← hV1]; exact (HB.out.alloc (by omega) _).drew
    have vs : w.heap.size + 5 ≤ V1.drew.heap.size ∧ V1.drew.heap.size ≤ w.heap.size + 5 := by rw [← hV1]; simp; omega
    have HV1 := Lib.hid hV1
    clear hV1 H0 H1 H2 H3 HB HL HT c0 c1 c2 c3 f2 f3
    gi_wp2
    rw [HV1.out]
    clear HV1
    obtain ⟨V2, hV2⟩ : ∃ V2, V1.drew = V2 := ⟨_, rfl⟩
    rw [hV2] at v0 v1 v2 v3 v4 vb vs
    have c0 : V2.cell? ⟨w.heap.size, 0, none⟩ = some (.pointer (some ⟨p, 0, none⟩)) := v0.cell 0
    have c1 : V2.cell? ⟨w.heap.size + 1, 0, none⟩ = some (.int .u64 s) := v1.cell 0
    have HL := Lib.hid (HL0.out.below vb)
    have HT := Lib.hid (HT00.out.below vb hT0)
    have CE := Lib.hid (each_ok e0 V2)
    refine wpIn_region_seq [(0, true), (1, true), (2, false), (3, true)] 4 [] (fun w' => w'.cell? ⟨w.heap.size, 0, none⟩ = some (.pointer (some ⟨p, 0, none⟩)) ∧ w'.cell? ⟨w.heap.size + 1, 0, none⟩ = some (.int .u64 s)) (by kernel_rfl) (by kernel_rfl) (by rw [hV2]; exact ⟨c0, c1⟩) ?_
    rw [hV2]
    clear hV2
    simp only [List.map_cons, List.map_nil, List.getElem?_toArray, List.getElem?_cons_zero, List.getElem?_cons_succ]
    repeat (first | (refine si_skip (by rfl) (fun _ => rfl) ?_; try simp only [Act.put, List.setIfInBounds_toArray, List.set_cons_zero, List.set_cons_succ]) | (refine si_take (v := ?_) (by rfl) (fun _ => rfl) ?_ ?_; rotate_left; (focus ((intro w hSw; (try dsimp only at hSw); go_simp; (try with_reducible rfl)); done)); try simp only [Act.put, List.setIfInBounds_toArray, List.set_cons_zero, List.set_cons_succ]))
    refine si_mid (fun K hK => ?_)
    go_simp
    refine ⟨trivial, ?_⟩
    gi_at_call 25
    refine (callsIn_wide.2 (CA.out _ HL.out)).mono ?_
    rintro e w3 ⟨rfl, rfl⟩
    dsimp only
    refine hK.out _ _ ⟨c0, c1⟩ (fun _ => ?_)
    clear hK K
    repeat (first | (refine si_skip (by rfl) (fun _ => rfl) ?_; try simp only [Act.put, List.setIfInBounds_toArray, List.set_cons_zero, List.set_cons_succ]) | (refine si_take (v := ?_) (by rfl) (fun _ => rfl) ?_ ?_; rotate_left; (focus ((intro w hSw; (try dsimp only at hSw); go_simp; (try with_reducible rfl)); done)); try simp only [Act.put, List.setIfInBounds_toArray, List.set_cons_zero, List.set_cons_succ]))
    refine si_round ?_
    refine si_do (fun K hK => ?_)
    go_simp
    refine ⟨trivial, ?_⟩
    gi_at_call 24
    refine (callsIn_wide.2 CE.out).mono ?_
    rintro e w3 ⟨rfl, rfl⟩
    dsimp only
    refine hK.out _ _ ?_
    clear hK K CE c0 c1
    refine si_done ?_
    obtain ⟨V3, hV3⟩ : ∃ V3, V2.alloc (.cells #[.int .u64 (e0 : Int)] 22) = V3 := ⟨_, rfl⟩
    have hs3 : w.heap.size + 6 ≤ V3.heap.size ∧ V3.heap.size ≤ w.heap.size + 6 := by rw [← hV3]; simp; omega
    have x0 : Blk V3 w.heap.size 29 #[.pointer (some ⟨p, 0, none⟩)] := by rw [← hV3]; exact v0.alloc _
    have x1 : Blk V3 (w.heap.size + 1) 22 #[.int .u64 s] := by rw [← hV3]; exact v1.alloc _
    have x2 : Blk V3 (w.heap.size + 1 + 1) 3 #[.int .i64 0] := by rw [← hV3]; exact v2.alloc _
    have x3 : Blk V3 (w.heap.size + 1 + 1 + 1) 4 #[.bool false] := by rw [← hV3]; exact v3.alloc _
    have x4 : Blk V3 V.heap.size 3 #[.int .i64 0] := by rw [← hV3]; exact v4.alloc _
    have x5 : Blk V3 V2.heap.size 22 #[.int .u64 (e0 : Int)] := by rw [← hV3]; exact Blk.new V2 _ _
    have xb : Below w.heap.size w V3 := by rw [← hV3]; exact vb.alloc (by omega) _
    have xT : Tab V3 := HT00.out.below xb hT0
    have HV3 := Lib.hid hV3
    clear hV3
    gi_wp2
    rw [HV3.out]
    clear HV3 v0 v1 v2 v3 v4 vb HL HT
    have hsq := each_seq 5 (by decide) V2.heap.size e0 (fun k => k = V.heap.size ∨ V3.heap.size ≤ k) V3 HE64.out x5 (by omega) xT (by omega) (by omega)
    obtain ⟨E, hEE⟩ : ∃ E, bl e0 = E := ⟨_, rfl⟩
    rw [hEE] at hsq HWD HEL
    refine wpIn_range_boxH rfl h1 (gf := 27) (lb := #[.pointer (some ⟨V2.heap.size, 0, none⟩)]) rfl trivial (enters_of Tryd.func27 (by kernel_rfl) rfl) hsq (by omega) (fun k hk => .inr hk) (fun _ => rfl)
      (fun pre W' => (Blk W' w.heap.size 29 #[.pointer (some ⟨p, 0, none⟩)] ∧ Blk W' (w.heap.size + 1) 22 #[.int .u64 s] ∧ Blk W' (w.heap.size + 1 + 1) 3 #[.int .i64 0] ∧ Blk W' (w.heap.size + 1 + 1 + 1) 4 #[.bool false] ∧ Blk W' V.heap.size 3 #[.int .i64 (mo a s E 0 pre)]) ∧ Below w.heap.size w W' ∧ good a s E pre)
      (fun c pre W' => (Blk W' (w.heap.size + 1 + 1) 3 #[.int .i64 0] ∧ Blk W' (w.heap.size + 1 + 1 + 1) 4 #[.bool false]) ∧ Below w.heap.size w W' ∧ c = .ret ∧ ¬ good a s E E)
      (Ab.and (Ab.and (ab_blk (by omega)) (Ab.and (ab_blk (by omega)) (Ab.and (ab_blk (by omega)) (Ab.and (ab_blk (by omega)) (ab_blk (by omega)))))) (Ab.and (ab_below (by omega) (by omega) (by omega) _) (ab_pure _ _)))
      (fun c => Ab.and (Ab.and (ab_blk (by omega)) (ab_blk (by omega))) (Ab.and (ab_below (by omega) (by omega) (by omega) _) (ab_pure _ _)))
      ⟨⟨x0, x1, x2, x3, x4⟩, xb, fun i hi => nomatch hi⟩
      (fun i a' (_ : World) => a' = { tmps := #[.pointer (some ⟨p, 0, none⟩), .int .u64 s, .pointer (some ⟨w.heap.size, 0, none⟩), .pointer (some ⟨w.heap.size + 1, 0, none⟩), .pointer (some ⟨w.heap.size + 1 + 1, 0, none⟩), .pointer (some ⟨w.heap.size + 1 + 1 + 1, 0, none⟩), .pointer (some ⟨V.heap.size, 0, none⟩), .int .i64 (i : Nat), undef, undef, .pointer (some ⟨p, 0, none⟩), .bool false, .bool false, .int .u64 s, .pointer (some ⟨p, 0, none⟩), .int .u64 (M : Int), .int .u64 (e0 : Int), .bool false, .bool false, .int .u64 s, .pointer (some ⟨p, 0, none⟩), .int .u64 (M : Int), .int .u64 (e0 : Int), .func (.func 27) #[] #[.pointer (some ⟨V2.heap.size, 0, none⟩)], .int .i64 (i : Nat), undef, undef, undef, undef, undef, undef, undef, undef, undef, undef, undef, undef, undef, undef, undef, undef, undef, undef, undef, undef, undef, undef], defers := [] })
      (fun _ _ => ab_pure _ _) ?assign ?body ?done ?stop
    case assign =>
      intro l pre i W' K hI' hK
      have HI' := Lib.hid hI'
      have HK := Lib.hid hK
      clear hI' hK
      gi_wp2
      exact HK.out _ _ (KeepsFrom.refl _ _) (Kp.refl _ _) HI'.out rfl
    case stop =>
      rintro D c pre W' hD _ ⟨⟨b2, b3⟩, bb, rfl, hng⟩ hK
      have B2 := Lib.hid b2
      have B3 := Lib.hid b3
      have BB := Lib.hid bb
      clear b2 b3 bb x0 x1 x2 x3 x4 x5 xb xT hsq
      gi_wp2
      refine ⟨by simp, .inl ⟨_, _, rfl, run_takeDeferred hK, ?_⟩⟩
      have hkD := (Kp.refl (fun k => k = D) W').grown (grownBy_putObj' W' D (.deferred none)) (fun q e => by cases e; exact .inl rfl)
      refine ⟨_, res_wide _ _ (w.heap.size + 1 + 1) (w.heap.size + 1 + 1 + 1) 0 false rfl rfl (blk_kp B2.out hkD (by omega)) (blk_kp B3.out hkD (by omega)), ⟨_, _, rfl, HWD.out _ _ (by rw [if_neg hz]; exact .inr ⟨rfl, rfl, hng⟩)⟩, below_kp BB.out BB.out.size hkD (fun k hk => by omega)⟩
    case done =>
      rintro D W' hD ⟨⟨b0, b1, b2, b3, b4⟩, bb, hg⟩ hK
      have m4 := b4.cell 0
      have m2 := b2.cell 0
      have f2 := b2.frozen 0
      have m3 : ∀ v, (W'.setCell ⟨w.heap.size + 1 + 1, 0, none⟩ v).cell? ⟨w.heap.size + 1 + 1 + 1, 0, none⟩ = some (.bool false) := fun v => (b3.far (p := ⟨w.heap.size + 1 + 1, 0, none⟩) (by show w.heap.size + 1 + 1 + 1 ≠ w.heap.size + 1 + 1; omega) v).cell 0
      have f3 : ∀ v, (W'.setCell ⟨w.heap.size + 1 + 1, 0, none⟩ v).frozen? ⟨w.heap.size + 1 + 1 + 1, 0, none⟩ = false := fun v => (b3.far (p := ⟨w.heap.size + 1 + 1, 0, none⟩) (by show w.heap.size + 1 + 1 + 1 ≠ w.heap.size + 1 + 1; omega) v).frozen 0
      have B2 := Lib.hid b2
      have B3 := Lib.hid b3
      have BB := Lib.hid bb
      clear b0 b1 b2 b3 b4 bb x0 x1 x2 x3 x4 x5 xb xT hsq
      generalize hmo : mo a s E 0 E = v at m4
      gi_wp2
      have hK' : ((W'.setCell ⟨w.heap.size + 1 + 1, 0, none⟩ (.int .i64 v)).setCell ⟨w.heap.size + 1 + 1 + 1, 0, none⟩ (.bool true)).heap[D]? = some (.deferred (some [])) := ((KeepsOthers.setCell W' ⟨w.heap.size + 1 + 1, 0, none⟩ (.int .i64 v)).trans (KeepsOthers.setCell _ ⟨w.heap.size + 1 + 1 + 1, 0, none⟩ (.bool true))).same D _ hK rfl
      refine ⟨by simp, .inl ⟨_, _, rfl, run_takeDeferred hK', ?_⟩⟩
      have hkD := (Kp.refl (fun k => k = D) ((W'.setCell ⟨w.heap.size + 1 + 1, 0, none⟩ (.int .i64 v)).setCell ⟨w.heap.size + 1 + 1 + 1, 0, none⟩ (.bool true))).grown (grownBy_putObj' _ D (.deferred none)) (fun q e => by cases e; exact .inl rfl)
      have hBB := (BB.out.setCell (p := ⟨w.heap.size + 1 + 1, 0, none⟩) (by show w.heap.size ≤ w.heap.size + 1 + 1; omega) (.int .i64 v)).setCell (p := ⟨w.heap.size + 1 + 1 + 1, 0, none⟩) (by show w.heap.size ≤ w.heap.size + 1 + 1 + 1; omega) (.bool true)
      refine ⟨_, res_wide _ _ (w.heap.size + 1 + 1) (w.heap.size + 1 + 1 + 1) v true rfl rfl (blk_kp ?_ hkD (by omega)) (blk_kp ?_ hkD (by omega)), ⟨_, _, rfl, HWD.out _ _ (by rw [if_neg hz]; exact .inl ⟨rfl, hg, hmo.symm⟩)⟩, below_kp hBB hBB.size hkD (fun k hk => by omega)⟩
      · exact (B2.out.set_ 0 _).far (p := ⟨w.heap.size + 1 + 1 + 1, 0, none⟩) (by show w.heap.size + 1 + 1 ≠ w.heap.size + 1 + 1 + 1; omega) _
      · exact (B3.out.far (p := ⟨w.heap.size + 1 + 1, 0, none⟩) (by show w.heap.size + 1 + 1 + 1 ≠ w.heap.size + 1 + 1; omega) _).set_ 0 _
    case body =>
      rintro l pre i a' W' hl ⟨r0, hr0⟩ ⟨⟨b0, b1, b2, b3, b4⟩, bb, hg⟩ rfl hpre
      have hiE : i ∈ E := hpre.subset (by simp)
      have hil : i < a.length := HEL.out i hiE
      have c0 := b0.cell 0
      have c1 := b1.cell 0
      have hlw := (Array.getElem?_eq_some_iff.1 hr0).1
      have CH := Lib.hid (hops_ok p g a i s W' (HL0.out.below bb) hs (HT00.out.below bb hT0))
      have B0 := Lib.hid b0
      have B1 := Lib.hid b1
      have B2 := Lib.hid b2
      have B3 := Lib.hid b3
      have B4 := Lib.hid b4
      have BB := Lib.hid bb
      have HG := Lib.hid hg
      have HR0 := Lib.hid hr0
      clear b0 b1 b2 b3 b4 bb hg hr0 x0 x1 x2 x3 x4 x5 xb xT hsq
      gi_wp2_with (refine ⟨trivial, ?_⟩; gi_at_call 15; refine (callsIn_wide.2 CH.out).mono ?_; rintro e w4 ⟨⟨b, rfl, hbk, hbn⟩, hb4⟩)
      obtain ⟨H, hH⟩ : ∃ H, hops a (i : Nat) s = H := ⟨_, rfl⟩
      have hHl : H.length = a.length := by rw [← hH, hops_length]
      rw [hH] at hbk
      obtain ⟨V5, hV5⟩ : ∃ V5, (w4.alloc (.cells #[.slice (some ⟨b, 0, none⟩) a.length a.length] 24)).drew = V5 := ⟨_, rfl⟩
      have w4s := hb4.size
      have hbl := hbk.lt
      have y5 : Blk V5 w4.heap.size 24 #[.slice (some ⟨b, 0, none⟩) a.length a.length] := by rw [← hV5]; exact (Blk.new w4 _ _).drew
      have y6 : Blk V5 b 3 (H.map (Value.int .i64)).toArray := by rw [← hV5]; exact (hbk.alloc _).drew
      have yW : Below W'.heap.size W' V5 := by rw [← hV5]; exact (hb4.alloc w4s _).drew
      have ys : w4.heap.size + 1 ≤ V5.heap.size ∧ V5.heap.size ≤ w4.heap.size + 1 := by rw [← hV5]; simp
      have yB : Below w.heap.size w V5 := BB.out.trans (yW.mono BB.out.size)
      have c0 : V5.cell? ⟨w.heap.size, 0, none⟩ = some (.pointer (some ⟨p, 0, none⟩)) := (B0.out.keeps yW).cell 0
      have c1 : V5.cell? ⟨w.heap.size + 1, 0, none⟩ = some (.int .u64 s) := (B1.out.keeps yW).cell 0
      have HL5 := Lib.hid (HL0.out.below yB)
      have CE := Lib.hid (each_ok e0 V5)
      clear hbk hb4 CH
      refine wpIn_region_seq [(0, true), (1, true), (2, false), (3, true)] 4 [] (fun w' => w'.cell? ⟨w.heap.size, 0, none⟩ = some (.pointer (some ⟨p, 0, none⟩)) ∧ w'.cell? ⟨w.heap.size + 1, 0, none⟩ = some (.int .u64 s)) (by kernel_rfl) (by kernel_rfl) (by rw [hV5]; exact ⟨c0, c1⟩) ?_
      rw [hV5]
      clear hV5
      simp only [List.map_cons, List.map_nil, List.getElem?_toArray, List.getElem?_cons_zero, List.getElem?_cons_succ]
      repeat (first | (refine si_skip (by rfl) (fun _ => rfl) ?_; try simp only [Act.put, List.setIfInBounds_toArray, List.set_cons_zero, List.set_cons_succ]) | (refine si_take (v := ?_) (by rfl) (fun _ => rfl) ?_ ?_; rotate_left; (focus ((intro w hSw; (try dsimp only at hSw); go_simp; (try with_reducible rfl)); done)); try simp only [Act.put, List.setIfInBounds_toArray, List.set_cons_zero, List.set_cons_succ]))
      refine si_mid (fun K hK => ?_)
      go_simp
      refine ⟨trivial, ?_⟩
      gi_at_call 25
      refine (callsIn_wide.2 (CA.out _ HL5.out)).mono ?_
      rintro e w3 ⟨rfl, rfl⟩
      dsimp only
      refine hK.out _ _ ⟨c0, c1⟩ (fun _ => ?_)
      clear hK K
      repeat (first | (refine si_skip (by rfl) (fun _ => rfl) ?_; try simp only [Act.put, List.setIfInBounds_toArray, List.set_cons_zero, List.set_cons_succ]) | (refine si_take (v := ?_) (by rfl) (fun _ => rfl) ?_ ?_; rotate_left; (focus ((intro w hSw; (try dsimp only at hSw); go_simp; (try with_reducible rfl)); done)); try simp only [Act.put, List.setIfInBounds_toArray, List.set_cons_zero, List.set_cons_succ]))
      refine si_round ?_
      refine si_do (fun K hK => ?_)
      go_simp
      refine ⟨trivial, ?_⟩
      gi_at_call 24
      refine (callsIn_wide.2 CE.out).mono ?_
      rintro e w3 ⟨rfl, rfl⟩
      dsimp only
      refine hK.out _ _ ?_
      clear hK K CE c0 c1
      refine si_done ?_
      obtain ⟨V6, hV6⟩ : ∃ V6, V5.alloc (.cells #[.int .u64 (e0 : Int)] 22) = V6 := ⟨_, rfl⟩
      have zs : V5.heap.size + 1 ≤ V6.heap.size ∧ V6.heap.size ≤ V5.heap.size + 1 := by rw [← hV6]; simp
      have z5 : Blk V6 w4.heap.size 24 #[.slice (some ⟨b, 0, none⟩) a.length a.length] := by rw [← hV6]; exact y5.alloc _
      have z6 : Blk V6 b 3 (H.map (Value.int .i64)).toArray := by rw [← hV6]; exact y6.alloc _
      have z7 : Blk V6 V5.heap.size 22 #[.int .u64 (e0 : Int)] := by rw [← hV6]; exact Blk.new V5 _ _
      have zW : Below W'.heap.size W' V6 := by rw [← hV6]; exact yW.alloc (by omega) _
      have zB : Below w.heap.size w V6 := BB.out.trans (zW.mono BB.out.size)
      have zT : Tab V6 := HT00.out.below zB hT0
      have zR : V6.heap[l]? = some (.loop r0) := (zW.block l hlw).trans HR0.out
      have z4 : Blk V6 V.heap.size 3 #[.int .i64 (mo a s E 0 pre)] := B4.out.keeps zW
      have HV6 := Lib.hid hV6
      clear hV6
      gi_wp2
      rw [HV6.out]
      clear HV6 y5 y6 yW yB HL5
      have hsq2 := each_seq 3 (by decide) V5.heap.size e0 (fun k => k = V.heap.size ∨ V6.heap.size ≤ k) V6 HE64.out z7 (by omega) zT (by omega) (by omega)
      rw [hEE] at hsq2
      obtain ⟨m0, hm0⟩ : ∃ m0, mo a s E 0 pre = m0 := ⟨_, rfl⟩
      rw [hm0] at z4
      refine wpIn_range_boxN (F := Fence.wide.inRound l) rfl zR (by decide) (gf := 27) (lb := #[.pointer (some ⟨V5.heap.size, 0, none⟩)]) rfl trivial (enters_of Tryd.func27 (by kernel_rfl) rfl) hsq2 (by omega) (fun k hk => .inr hk) (fun _ => rfl)
        (fun pre2 X => (Blk X V.heap.size 3 #[.int .i64 (mx H m0 pre2)] ∧ Blk X w4.heap.size 24 #[.slice (some ⟨b, 0, none⟩) a.length a.length] ∧ Blk X b 3 (H.map (Value.int .i64)).toArray) ∧ Below w.heap.size w X ∧ KeepsFrom V3.heap.size W' X ∧ Kp (fun k => k = V.heap.size ∨ V3.heap.size ≤ k) W' X ∧ ∀ k ∈ pre2, 0 ≤ H.getD k (-1))
        (fun c pre2 X => (Blk X (w.heap.size + 1 + 1) 3 #[.int .i64 0] ∧ Blk X (w.heap.size + 1 + 1 + 1) 4 #[.bool false]) ∧ Below w.heap.size w X ∧ KeepsFrom V3.heap.size W' X ∧ c = .ret ∧ ¬ good a s E E)
        (Ab.and (Ab.and (ab_blk (by omega)) (Ab.and (ab_blk (by omega)) (ab_blk (by omega)))) (Ab.and (ab_below (by omega) (by omega) (by omega) _) (Ab.and (ab_keeps (by omega) (by omega) _) (Ab.and (Rb.ab_kp (fun k hk => by omega) _) (ab_pure _ _)))))
        (fun c => Ab.and (Ab.and (ab_blk (by omega)) (ab_blk (by omega))) (Ab.and (ab_below (by omega) (by omega) (by omega) _) (Ab.and (ab_keeps (by omega) (by omega) _) (ab_pure _ _))))
        ⟨⟨z4, z5, z6⟩, zB, keeps_below zW, Kp.of_below zW, fun k hk => nomatch hk⟩
        (fun k a' (_ : World) => a' = { tmps := #[.pointer (some ⟨p, 0, none⟩), .int .u64 s, .pointer (some ⟨w.heap.size, 0, none⟩), .pointer (some ⟨w.heap.size + 1, 0, none⟩), .pointer (some ⟨w.heap.size + 1 + 1, 0, none⟩), .pointer (some ⟨w.heap.size + 1 + 1 + 1, 0, none⟩), .pointer (some ⟨V.heap.size, 0, none⟩), .int .i64 (i : Nat), .pointer (some ⟨w4.heap.size, 0, none⟩), .int .i64 (k : Nat), .pointer (some ⟨p, 0, none⟩), .bool false, .bool false, .int .u64 s, .pointer (some ⟨p, 0, none⟩), .int .u64 (M : Int), .int .u64 (e0 : Int), .bool false, .bool false, .int .u64 s, .pointer (some ⟨p, 0, none⟩), .int .u64 (M : Int), .int .u64 (e0 : Int), .func (.func 27) #[] #[.pointer (some ⟨V2.heap.size, 0, none⟩)], .int .i64 (i : Nat), .pointer (some ⟨p, 0, none⟩), .int .i64 (i : Nat), .int .u64 s, .slice (some ⟨b, 0, none⟩) a.length a.length, .int .u64 s, .pointer (some ⟨p, 0, none⟩), .int .u64 (M : Int), .int .u64 (e0 : Int), .func (.func 27) #[] #[.pointer (some ⟨V5.heap.size, 0, none⟩)], .int .i64 (k : Nat), undef, undef, undef, undef, undef, undef, undef, undef, undef, undef, undef, undef], defers := [] })
        (fun _ _ => ab_pure _ _) ?assign2 ?body2 ?done2 ?stop2
      case assign2 =>
        intro l2 pre2 k X K hI' hK
        have HI' := Lib.hid hI'
        have HK := Lib.hid hK
        clear hI' hK
        gi_wp2
        exact HK.out _ _ (KeepsFrom.refl _ _) (Kp.refl _ _) HI'.out rfl
      case stop2 =>
        rintro c pre2 X _ ⟨⟨e1, e2⟩, eb, ek, rfl, hng⟩
        have E1 := Lib.hid e1
        have E2 := Lib.hid e2
        have EB := Lib.hid eb
        have EK := Lib.hid ek
        clear e1 e2 eb ek z4 z5 z6 z7 zW zB zT zR hsq2
        gi_wp2
        exact ⟨EK.out, ⟨E1.out, E2.out⟩, EB.out, rfl, hng⟩
      case done2 =>
        rintro X ⟨⟨e1, e2, e3⟩, eb, ek, ekp, enn⟩
        have E1 := Lib.hid e1
        have EB := Lib.hid eb
        have EK := Lib.hid ek
        have EKP := Lib.hid ekp
        have ENN := Lib.hid enn
        clear e1 e2 e3 eb ek ekp enn z4 z5 z6 z7 zW zB zT zR hsq2
        gi_wp2
        refine ⟨EK.out, EKP.out, ⟨blk_kp B0.out EKP.out (by omega), blk_kp B1.out EKP.out (by omega), blk_kp B2.out EKP.out (by omega), blk_kp B3.out EKP.out (by omega), ?_⟩, EB.out, ?_⟩
        · have e : mo a s E 0 (pre ++ [i]) = mx H m0 E := by
            unfold mo at hm0 ⊢
            rw [List.foldl_append, hm0, List.foldl_cons, List.foldl_nil, hH]
          rw [e]
          exact E1.out
        · intro j hj k hk
          rcases List.mem_append.1 hj with hj | hj
          · exact HG.out j hj k hk
          · rw [List.mem_singleton.1 hj, hH]
            exact ENN.out k hk
      case body2 =>
        rintro l2 pre2 k a2 X hl2 ⟨⟨e1, e2, e3⟩, eb, ek, ekp, enn⟩ rfl hpre2
        have hkE : k ∈ E := hpre2.subset (by simp)
        have hkl : k < a.length := HEL.out k hkE
        have n1 : (k : Int) < (a.length : Int) := by omega
        have v2 := blk_kp B2.out ekp (by omega)
        have v3 := blk_kp B3.out ekp (by omega)
        have s1 := e1.cell 0
        have s2 := e2.cell 0
        have s3 : X.cell? ⟨b, k, none⟩ = some (.int .i64 (H.getD k (-1))) := by
          rw [e3.cell k]
          simp [List.getD_eq_getElem?_getD, List.getElem?_eq_getElem (show k < H.length by omega)]
        have fe1 := e1.frozen 0
        have E1 := Lib.hid e1
        have E2 := Lib.hid e2
        have E3 := Lib.hid e3
        have EB := Lib.hid eb
        have EK := Lib.hid ek
        have EKP := Lib.hid ekp
        have ENN := Lib.hid enn
        have HX := Lib.hid (show mx H m0 (pre2 ++ [k]) = max (mx H m0 pre2) (H.getD k (-1)) by unfold mx; rw [List.foldl_append]; rfl)
        have HHK := Lib.hid (show H.getD k (-1) < 0 → ¬ good a s E E from fun hlt hgd => by
          have := hgd i hiE k hkE
          rw [hH] at this
          omega)
        have HPK := Lib.hid (show 0 ≤ H.getD k (-1) → ∀ k' ∈ pre2 ++ [k], 0 ≤ H.getD k' (-1) from fun h0 k' hk' => by
          rcases List.mem_append.1 hk' with h | h
          · exact ENN.out k' h
          · rw [List.mem_singleton.1 h]
            exact h0)
        generalize mx H m0 pre2 = m at s1 HX
        generalize H.getD k (-1) = hv at s3 HX HHK HPK
        by_cases hneg : hv < 0
        · have d2 := v2.cell 0
          have f2 := v2.frozen 0
          have d3 : ∀ v, (X.setCell ⟨w.heap.size + 1 + 1, 0, none⟩ v).cell? ⟨w.heap.size + 1 + 1 + 1, 0, none⟩ = some (.bool false) := fun v => (v3.far (p := ⟨w.heap.size + 1 + 1, 0, none⟩) (by show w.heap.size + 1 + 1 + 1 ≠ w.heap.size + 1 + 1; omega) v).cell 0
          have f3 : ∀ v, (X.setCell ⟨w.heap.size + 1 + 1, 0, none⟩ v).frozen? ⟨w.heap.size + 1 + 1 + 1, 0, none⟩ = false := fun v => (v3.far (p := ⟨w.heap.size + 1 + 1, 0, none⟩) (by show w.heap.size + 1 + 1 + 1 ≠ w.heap.size + 1 + 1; omega) v).frozen 0
          have V2' := Lib.hid v2
          have V3' := Lib.hid v3
          clear e1 e2 e3 eb ek ekp enn v2 v3 z4 z5 z6 z7 zW zB zT zR hsq2
          gi_wp2
          have hkf := (KeepsOthers.setCell X ⟨w.heap.size + 1 + 1, 0, none⟩ (.int .i64 0)).trans (KeepsOthers.setCell (X.setCell ⟨w.heap.size + 1 + 1, 0, none⟩ (.int .i64 0)) ⟨w.heap.size + 1 + 1 + 1, 0, none⟩ (.bool false))
          exact ⟨hkf.from _, ⟨(V2'.out.set_ 0 _).far (p := ⟨w.heap.size + 1 + 1 + 1, 0, none⟩) (by show w.heap.size + 1 + 1 ≠ w.heap.size + 1 + 1 + 1; omega) _, (V3'.out.far (p := ⟨w.heap.size + 1 + 1, 0, none⟩) (by show w.heap.size + 1 + 1 + 1 ≠ w.heap.size + 1 + 1; omega) _).set_ 0 _⟩,
            (EB.out.setCell (p := ⟨w.heap.size + 1 + 1, 0, none⟩) (by show w.heap.size ≤ w.heap.size + 1 + 1; omega) _).setCell (p := ⟨w.heap.size + 1 + 1 + 1, 0, none⟩) (by show w.heap.size ≤ w.heap.size + 1 + 1 + 1; omega) _, EK.out.trans (hkf.from _), rfl, HHK.out hneg⟩
        · have g1 : ¬ hv < 0 := hneg
          clear e1 e2 e3 eb ek ekp enn v2 v3 z4 z5 z6 z7 zW zB zT zR hsq2
          gi_wp2
          have s1 : X.drew.cell? ⟨V.heap.size, 0, none⟩ = some (.int .i64 m) := s1
          have s2 : X.drew.cell? ⟨w4.heap.size, 0, none⟩ = some (.slice (some ⟨b, 0, none⟩) a.length a.length) := s2
          have s3 : X.drew.cell? ⟨b, k, none⟩ = some (.int .i64 hv) := s3
          have fe2 : X.drew.frozen? ⟨V.heap.size, 0, none⟩ = false := fe1
          by_cases hm : m < hv
          · have dm : decide (m < hv) = true := by simpa using hm
            have mm : max m hv = hv := by omega
            refine wpIn_region_seq [(0, true), (1, true), (2, true), (3, true), (4, true), (5, true)] 6 [] (fun w' => w'.cell? ⟨V.heap.size, 0, none⟩ = some (.int .i64 m) ∧ w'.cell? ⟨w4.heap.size, 0, none⟩ = some (.slice (some ⟨b, 0, none⟩) a.length a.length) ∧ w'.cell? ⟨b, k, none⟩ = some (.int .i64 hv)) (by kernel_rfl) (by kernel_rfl) ⟨s1, s2, s3⟩ ?_
            simp only [List.map_cons, List.map_nil, List.getElem?_toArray, List.getElem?_cons_zero, List.getElem?_cons_succ]
            repeat (first | (refine si_skip (by rfl) (fun _ => rfl) ?_; try simp only [Act.put, List.setIfInBounds_toArray, List.set_cons_zero, List.set_cons_succ]) | (refine si_take (v := ?_) (by rfl) (fun _ => rfl) ?_ ?_; rotate_left; (focus ((intro w hSw; (try dsimp only at hSw); go_simp; (try with_reducible rfl)); done)); try simp only [Act.put, List.setIfInBounds_toArray, List.set_cons_zero, List.set_cons_succ]))
            refine si_round ?_
            refine si_do (fun K hK => ?_)
            go_simp
            refine hK.out _ _ ?_
            clear hK K
            refine si_done ?_
            gi_wp2
            have hkf := (KeepsOthers.setCell X ⟨V.heap.size, 0, none⟩ (.int .i64 hv)).trans (Ho.keeps_drew _)
            have hxe : mx H m0 (pre2 ++ [k]) = hv := by rw [HX.out]; omega
            refine ⟨hkf.from _, ((Kp.refl _ X).set_ ⟨V.heap.size, 0, none⟩ (.inl (.inl rfl)) _).drew, ⟨?_, ?_, ?_⟩, ?_, EK.out.trans (hkf.from _), ?_, HPK.out g1⟩
            · rw [hxe]
              exact (E1.out.set_ 0 _).drew
            · exact (E2.out.far (p := ⟨V.heap.size, 0, none⟩) (by show w4.heap.size ≠ V.heap.size; omega) _).drew
            · exact (E3.out.far (p := ⟨V.heap.size, 0, none⟩) (by show b ≠ V.heap.size; omega) _).drew
            · exact (EB.out.setCell (p := ⟨V.heap.size, 0, none⟩) (by show w.heap.size ≤ V.heap.size; omega) _).drew
            · exact (EKP.out.set_ ⟨V.heap.size, 0, none⟩ (.inl (.inl rfl)) _).drew
          · have dm : decide (m < hv) = false := by simpa using hm
            have mm : max m hv = m := by omega
            refine wpIn_region_seq [(0, true), (1, true), (2, true), (3, true), (4, true), (5, true)] 6 [] (fun w' => w'.cell? ⟨V.heap.size, 0, none⟩ = some (.int .i64 m) ∧ w'.cell? ⟨w4.heap.size, 0, none⟩ = some (.slice (some ⟨b, 0, none⟩) a.length a.length) ∧ w'.cell? ⟨b, k, none⟩ = some (.int .i64 hv)) (by kernel_rfl) (by kernel_rfl) ⟨s1, s2, s3⟩ ?_
            simp only [List.map_cons, List.map_nil, List.getElem?_toArray, List.getElem?_cons_zero, List.getElem?_cons_succ]
            repeat (first | (refine si_skip (by rfl) (fun _ => rfl) ?_; try simp only [Act.put, List.setIfInBounds_toArray, List.set_cons_zero, List.set_cons_succ]) | (refine si_take (v := ?_) (by rfl) (fun _ => rfl) ?_ ?_; rotate_left; (focus ((intro w hSw; (try dsimp only at hSw); go_simp; (try with_reducible rfl)); done)); try simp only [Act.put, List.setIfInBounds_toArray, List.set_cons_zero, List.set_cons_succ]))
            refine si_round ?_
            refine si_do (fun K hK => ?_)
            go_simp
            refine hK.out _ _ ?_
            clear hK K
            refine si_done ?_
            gi_wp2
            have hkf := (KeepsOthers.setCell X ⟨V.heap.size, 0, none⟩ (.int .i64 m)).trans (Ho.keeps_drew _)
            have hxe : mx H m0 (pre2 ++ [k]) = m := by rw [HX.out]; omega
            refine ⟨hkf.from _, ((Kp.refl _ X).set_ ⟨V.heap.size, 0, none⟩ (.inl (.inl rfl)) _).drew, ⟨?_, ?_, ?_⟩, ?_, EK.out.trans (hkf.from _), ?_, HPK.out g1⟩
            · rw [hxe]
              exact (E1.out.set_ 0 _).drew
            · exact (E2.out.far (p := ⟨V.heap.size, 0, none⟩) (by show w4.heap.size ≠ V.heap.size; omega) _).drew
            · exact (E3.out.far (p := ⟨V.heap.size, 0, none⟩) (by show b ≠ V.heap.size; omega) _).drew
            · exact (EB.out.setCell (p := ⟨V.heap.size, 0, none⟩) (by show w.heap.size ≤ V.heap.size; omega) _).drew
            · exact (EKP.out.set_ ⟨V.heap.size, 0, none⟩ (.inl (.inl rfl)) _).drew
end Go.Proofs.YtfmkamkbbeahgaaDoor.Wi
