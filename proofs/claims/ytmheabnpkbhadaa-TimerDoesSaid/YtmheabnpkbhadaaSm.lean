/- same: the row and the document's, gone over beside one another; first of none. -/
import Derived.Test.YtmheabnpkbhadaaIw
import Derived.Test.YtmheabnpkbhadaaRb2
import Derived.RangeFuncFrom
namespace Go.Proofs.Ytmheabnpkbhadaa.Sm
open Go.RowKit Go.Shelf Go.Proofs.Ytmheabnpkbhadaa.Bk Go.Proofs.Ytmheabnpkbhadaa.Rw Go.Proofs.Ytmheabnpkbhadaa.Ow Go.Proofs.Ytmheabnpkbhadaa.Kp Go.Proofs.Ytmheabnpkbhadaa.Rb Go.Proofs.Ytmheabnpkbhadaa.Si Go.Proofs.Ytmheabnpkbhadaa.Tp Go.Proofs.Ytmheabnpkbhadaa.Tl Go.Proofs.Ytmheabnpkbhadaa.Tq Go.Proofs.Ytmheabnpkbhadaa.Se Go.Proofs.Ytmheabnpkbhadaa.Rp Go.Proofs.Ytmheabnpkbhadaa.Rm Go.Proofs.Ytmheabnpkbhadaa.Iw
attribute [local go_sem] Oper.semAt_some
/-- The slice in box m isn't block B's. -/
def Gn (W : World) (m B : Nat) : Prop := ∀ A n c, W.cell? ⟨m, 0, none⟩ = some (.slice (some A) n c) → A.block ≠ B
theorem grown_cl {W W' : World} {Bn B : Nat} {row : Option Nat} (hg : W.grownBy W' row) (hr : ∀ r, row = some r → r = Bn ∨ (B ≤ r ∧ ∃ x, W.heap[r]? = some x ∧ Cl x)) : ∀ {g : Nat} {t : TypeId} {cs : Array Value}, Blk W g t cs → g ≠ Bn → W'.heap[g]? = W.heap[g]? := fun {g t cs} hb hne => hg.block g hb.lt (fun e => by
  rcases hr g e.symm with h | ⟨_, x, h1, h2⟩
  · exact hne h
  · have h1 := h1.symm.trans (show W.heap[g]? = _ from hb)
    injection h1 with h1
    subst h1
    cases h2)
theorem keeps_kp {S : Nat → Prop} {B : Nat} {W W' : World} (hk : Kp S W W') (hS : ∀ k, B ≤ k → ¬ S k) : KeepsFrom B W W' := ⟨hk.size, fun k _ hB h _ => (hk.block k (Array.getElem?_eq_some_iff.1 h).1 (hS k hB)).trans h⟩
theorem ab_rf {Bn B m : Nat} (hm : m ≠ Bn) {M : List One → List Tw → Prop} {t : Int} : Ab Bn B Cl (fun (pre : List One) W => ∃ M', Rf W m M' t ∧ Gn W m Bn ∧ M pre M') := fun pre W W' row ⟨M', hR, hG, hM⟩ hg hr => by
  have hk := fun {g : Nat} {t : TypeId} {cs : Array Value} => grown_cl (g := g) (t := t) (cs := cs) hg hr
  obtain ⟨A, c, hb, hA⟩ := hR
  have hb' : Blk W' m 39 #[.slice A M'.length c, .int .i64 t] := (hk hb hm).trans hb
  refine ⟨M', ⟨A, c, hb', fun h0 => ?_⟩, fun A' n c' h => hG A' n c' (by rw [hb.cell]; rw [hb'.cell] at h; exact h), hM⟩
  obtain ⟨g, rfl, h1, ⟨C, hC⟩, h2⟩ := hA h0
  have hne : g ≠ Bn := hG ⟨g, 0, none⟩ _ _ (hb.cell 0)
  have hg' := hk hC hne
  exact ⟨g, rfl, h1, ⟨C, hg'.trans hC⟩, fun j hj => ⟨(World.cell?_of_block (a := ⟨g, j * 3, none⟩) hg').trans (h2 j hj).1, (World.cell?_of_block (a := ⟨g, j * 3 + 1, none⟩) hg').trans (h2 j hj).2.1, (World.cell?_of_block (a := ⟨g, j * 3 + 2, none⟩) hg').trans (h2 j hj).2.2⟩⟩
set_option maxRecDepth 100000 in
set_option maxHeartbeats 4000000 in
theorem same_ok (r q : Nat) (A : Option Addr) (c : Nat) (M : List Tw) (t t0 : Int) (w : World) (hR : RB w r q (srt M)) (hM : Md M t0) (hA : ∀ a, A = some a → a.block < w.heap.size) (hE : 0 < M.length → ∃ g, A = some ⟨g, 0, none⟩ ∧ E3 w g M) :
    Calls Try.prog 15 #[.pointer (some ⟨r, 0, none⟩), .agg #[.slice A M.length c, .int .i64 t]] w fun e w' => e = .returned (.bool true) ∧ Below w.heap.size w w' := by
  refine callsIn_wide (n := 3).1 ?_
  have hfn : Fence.wide.fn 15 := trivial
  have h1 : 1 ≤ 3 := by decide
  refine callsIn_of_wp_marks Try.func15 rfl hfn ?_ rfl
  simp only [Try.ntmps15, List.size_toArray, List.length_cons, List.length_nil, Nat.reduceAdd, Nat.reduceSub, Array.replicate_succ, Array.replicate_zero, List.push_toArray, List.append_toArray, List.nil_append, List.cons_append]
  have hr := hR.ltr
  have hq := hR.ltq
  obtain ⟨W, hW⟩ : ∃ W, (w.alloc (.cells #[.slice A M.length c, .int .i64 t] 39)).alloc (.cells #[.bool false] 4) = W := ⟨_, rfl⟩
  have hb : Below w.heap.size w W := by rw [← hW]; exact ((Below.refl _ w).alloc (by omega) _).alloc (by simp) _
  have hs3 : W.heap.size = w.heap.size + 2 := by rw [← hW]; simp
  have b0 : Blk W w.heap.size 39 #[.slice A M.length c, .int .i64 t] := by rw [← hW]; exact (Blk.new w _ _).alloc _
  have b1 : Blk W (w.heap.size + 1) 4 #[.bool false] := by
    have h := Blk.new (w.alloc (.cells #[.slice A M.length c, .int .i64 t] 39)) 4 #[.bool false]
    rw [World.size_alloc] at h
    rw [← hW]
    exact h
  have HRF := Lib.hid (show Rf W w.heap.size M t from ⟨A, c, b0, fun h0 => by
    obtain ⟨g, rfl, h2⟩ := hE h0
    exact ⟨g, rfl, by have := hA _ rfl; show g ≠ _; have h3 : g < w.heap.size := this; omega, h2.kp (S := fun _ => False) (Kp.of_below hb) (fun h => h)⟩⟩)
  have HRB := Lib.hid (hR.keeps hb)
  have CA := Lib.hid (all_ok (some ⟨r, 0, none⟩) W)
  have HW := Lib.hid hW
  have HAB := Lib.hid hA
  rw [← hW] at CA
  clear hR hE hA hW
  gi_wp2_with (refine ⟨trivial, ?_⟩; gi_at_call 24; refine (callsIn_wide.2 CA.out).mono ?_; rintro e w1 ⟨rfl, rfl⟩)
  rw [HW.out]
  obtain ⟨V, hV⟩ : ∃ V, W.alloc (.cells #[.pointer (some ⟨r, 0, none⟩)] 35) = V := ⟨_, rfl⟩
  have hs4 : V.heap.size = w.heap.size + 3 := by rw [← hV]; simp; omega
  have x0 : Blk V w.heap.size 39 #[.slice A M.length c, .int .i64 t] := by rw [← hV]; exact b0.alloc _
  have x1 : Blk V (w.heap.size + 1) 4 #[.bool false] := by rw [← hV]; exact b1.alloc _
  have x2 : Blk V (w.heap.size + 2) 35 #[.pointer (some ⟨r, 0, none⟩)] := by
    have h := Blk.new W 35 #[.pointer (some ⟨r, 0, none⟩)]
    rw [hs3, hV] at h
    exact h
  have xb : Below w.heap.size w V := by rw [← hV]; exact hb.alloc (by omega) _
  have xr : RB V r q (srt M) := by rw [← hV]; exact HRB.out.alloc _
  have xf : Rf V w.heap.size M t := by rw [← hV]; exact HRF.out.keeps ((Below.refl _ W).alloc (Nat.le_refl _) _)
  rw [hV]
  clear hV HW HRF HRB b0 b1 hb CA
  have hsq := all_seq 2 (by decide) (w.heap.size + 2) r q (srt M) (fun k => k = w.heap.size ∨ V.heap.size ≤ k) V x2 xr (by omega) (by omega) (ok_srt hM).len
  have HGN := Lib.hid (show Gn V w.heap.size (w.heap.size + 2) from fun A' n c' h => by
    rw [x0.cell] at h
    have h : some (Value.slice A M.length c) = some (.slice (some A') n c') := h
    injection h with h
    injection h with h
    have := HAB.out A' h
    omega)
  refine wpIn_range_boxH rfl h1 (gf := 28) (lb := #[.pointer (some ⟨w.heap.size + 2, 0, none⟩)]) rfl trivial (enters_of Try.func28 (by kernel_rfl) rfl) hsq (by omega) (fun k hk => .inr hk) (fun _ => rfl)
    (fun pre W' => (∃ M', Rf W' w.heap.size M' t ∧ Gn W' w.heap.size (w.heap.size + 2) ∧ (Md M' t0 ∧ pre ++ srt M' = srt M)) ∧ Blk W' (w.heap.size + 1) 4 #[.bool false] ∧ Below w.heap.size w W')
    (fun _ _ _ => False)
    (Ab.and (ab_rf (M := fun pre M' => Md M' t0 ∧ pre ++ srt M' = srt M) (by omega)) (Ab.and (ab_blk (by omega)) (ab_below (by omega) (by omega) (by omega) _)))
    (fun c => ab_pure _ _)
    ⟨⟨M, xf, HGN.out, hM, rfl⟩, x1, xb⟩
    (fun x a' (_ : World) => a' = { tmps := #[.pointer (some ⟨r, 0, none⟩), .agg #[.slice A M.length c, .int .i64 t], undef, .pointer (some ⟨w.heap.size, 0, none⟩), .pointer (some ⟨w.heap.size + 1, 0, none⟩), .int .i64 x.1, .int .i64 x.2, undef, .pointer (some ⟨r, 0, none⟩), .func (.func 28) #[] #[.pointer (some ⟨w.heap.size + 2, 0, none⟩)], .int .i64 x.1, .int .i64 x.2, undef, undef, undef, undef, undef, undef, undef, undef, undef, undef, undef, undef, undef, undef, undef, undef, undef, undef, undef, undef, undef, undef, undef, undef, undef, undef, undef, undef, undef], defers := [] })
    (fun _ _ => ab_pure _ _) ?assign ?body ?done ?stop
  case stop =>
    intro D c' pre W' _ _ hf
    exact hf.elim
  case assign =>
    intro l' pre x W' K hI' hK
    have HI' := Lib.hid hI'
    have HK := Lib.hid hK
    clear hI' hK
    gi_wp2
    exact HK.out _ _ (KeepsFrom.refl _ _) (Kp.refl _ _) HI'.out rfl
  case done =>
    rintro D W' hD ⟨⟨M', hR', _, hMd, hpre⟩, hb1, eb⟩ hK
    have h0 : M' = [] := by
      have h := congrArg List.length hpre
      simp only [List.length_append, srt_length] at h
      exact List.eq_nil_of_length_eq_zero (by omega)
    subst h0
    obtain ⟨A', c', hbm, _⟩ := hR'
    have c0 : W'.cell? ⟨w.heap.size, 0, none⟩ = some (.slice A' 0 c') := hbm.cell 0
    have c1 := hb1.cell 0
    have f1 := hb1.frozen 0
    have HM1 := Lib.hid hb1
    have EB := Lib.hid eb
    clear hbm hb1 eb x0 x1 x2 xb xr xf hsq
    gi_wp2
    have hK' : (W'.setCell ⟨w.heap.size + 1, 0, none⟩ (.bool true)).heap[D]? = some (.deferred (some [])) := (KeepsOthers.setCell W' ⟨w.heap.size + 1, 0, none⟩ (.bool true)).same D _ hK rfl
    refine ⟨by simp, .inl ⟨_, _, rfl, run_takeDeferred hK', ?_⟩⟩
    have hc5 := cell_kept (v := .bool true) ((HM1.out.set_ 0 (.bool true)).cell 0) (grownBy_putObj' _ D (.deferred none)) (fun r e => by cases e; exact ⟨_, hK', rfl⟩)
    have hkD := (Kp.refl (fun k => k = D) (W'.setCell ⟨w.heap.size + 1, 0, none⟩ (.bool true))).grown (grownBy_putObj' (W'.setCell ⟨w.heap.size + 1, 0, none⟩ (.bool true)) D (.deferred none)) (fun q e => by cases e; exact .inl rfl)
    have hbs := EB.out.setCell (p := ⟨w.heap.size + 1, 0, none⟩) (show w.heap.size ≤ w.heap.size + 1 by omega) (.bool true)
    refine ⟨.bool true, ?_, rfl, below_kp hbs hbs.size hkD (fun k hk => by omega)⟩
    simp [results, Try.results15, go_sem, hc5]
  case body =>
    rintro l' pre x a' W' hl ⟨lr, hlr⟩ ⟨⟨M', hR', hG', hMd, hpre⟩, hb1, eb⟩ rfl hsub
    have hM'0 : M' ≠ [] := by
      rintro rfl
      rw [show srt ([] : List Tw) = [] from rfl, List.append_nil] at hpre
      rw [← hpre] at hsub
      have h := hsub.length_le
      rw [List.length_append] at h
      simp only [List.length_singleton] at h
      omega
    have HFI := Lib.hid (first_ok w.heap.size M' t t0 W' hR' hMd)
    have HR' := Lib.hid hR'
    have HMd := Lib.hid hMd
    have HPRE := Lib.hid hpre
    have HB1 := Lib.hid hb1
    have EB := Lib.hid eb
    have HSUB := Lib.hid hsub
    clear hR' hG' hMd hpre hb1 eb hsub x0 x1 x2 xb xr xf hsq
    have q1 : (x.1 != x.1) = false := by simp
    have q2 : (x.2 != x.2) = false := by simp
    have hM16 := HMd.out.len
    obtain ⟨N, hN⟩ : ∃ N, M'.length = N := ⟨_, rfl⟩
    gi_wp2_with (first
      | (refine ⟨trivial, ?_⟩
         gi_at_call 23
         refine ((callsIn_wide.2 HFI.out).inRound l').mono ?_
         rintro e W1 ⟨⟨b, rfl, hb⟩, hb1⟩
         obtain ⟨i, rfl, hF⟩ := hb.resolve_left (fun h => hM'0 h.1)
         obtain ⟨l, hl1, hl2⟩ := drop_first HMd.out hF
         have hxe : x = two (M'.getD i (0, 0, 0)) := by
           have h1 := HPRE.out
           have h2 := HSUB.out
           rw [← h1, hl1] at h2
           obtain ⟨s, hs⟩ := h2
           rw [List.append_assoc] at hs
           have := List.append_cancel_left hs
           rw [List.singleton_append] at this
           injection this
         have hlt := hF.lt
         have HR1 := Lib.hid (HR'.out.keeps hb1)
         obtain ⟨A1, c1, hbm, hA1⟩ := HR1.out
         obtain ⟨g, rfl, _, hE1⟩ := hA1 (by omega)
         obtain ⟨y0, y1, _⟩ := hE1.2 i hlt
         have e1 : (M'.getD i (0, 0, 0)).1 = x.1 := by rw [hxe]; rfl
         have e2 : (M'.getD i (0, 0, 0)).2.1 = x.2 := by rw [hxe]; rfl
         rw [e1] at y0
         rw [e2] at y1 hl2
         have c0 : W1.cell? ⟨w.heap.size, 0, none⟩ = some (.slice (some ⟨g, 0, none⟩) N c1) := by have := hbm.cell 0; rw [hN] at this; exact this
         rw [hN] at hlt
         have n1 : (i : Int) < (N : Int) := by omega
         have n0 : ¬ ((i : Int) < 0) := by omega
         have HL1 := Lib.hid hl1
         have HL2 := Lib.hid hl2
         have HXE := Lib.hid hxe
         have HBW := Lib.hid hb1
         have HDR := Lib.hid (rdrop_ok w.heap.size M' t x.2 W1 HR1.out hM16)
         clear hb hb1 hF hl1 hl2 hxe hbm hA1 hE1 e1 e2 HFI)
      | (refine ⟨trivial, ?_⟩
         gi_at_call 13
         refine ((callsIn_wide.2 HDR.out).inRound l').mono ?_
         rintro e W2 ⟨⟨rfl, hr2, hk2⟩, hg2⟩))
    have hW1 := HBW.out.size
    have hlW := (Array.getElem?_eq_some_iff.1 hlr).1
    have hVW := EB.out.size
    refine ⟨(keeps_below HBW.out).trans (keeps_kp hk2 (fun k hk e => by omega)), (Kp.of_below HBW.out).trans (hk2.mono (fun k _ h => .inl h)), ⟨fil x.2 M', hr2, fun A' n c' h => by have := hg2 A' n c' h; have := HR1.out.lt; omega, md_fil HMd.out _, ?_⟩, ?_, ?_⟩
    · rw [HL2.out, List.append_assoc, List.singleton_append, ← HPRE.out, HL1.out, HXE.out]
    · exact blk_kp (HB1.out.keeps HBW.out) hk2 (fun e => by omega)
    · exact below_kp (EB.out.trans (HBW.out.mono EB.out.size)) (by omega) hk2 (fun k e => by omega)
set_option maxRecDepth 100000 in
set_option maxHeartbeats 2000000 in
theorem first_nil (w : World) : Calls Try.prog 16 #[.pointer none] w fun e w' => e = .returned (.tuple #[.int .i64 0, .bool false]) ∧ Below w.heap.size w w' := by
  refine callsIn_wide (n := 3).1 ?_
  have hfn : Fence.wide.fn 16 := trivial
  have h1 : 1 ≤ 3 := by decide
  refine callsIn_of_wp_marks Try.func16 rfl hfn ?_ rfl
  simp only [Try.ntmps16, List.size_toArray, List.length_cons, List.length_nil, Nat.reduceAdd, Nat.reduceSub, Array.replicate_succ, Array.replicate_zero, List.push_toArray, List.append_toArray, List.nil_append, List.cons_append]
  obtain ⟨W, hW⟩ : ∃ W, (w.alloc (.cells #[.int .i64 0] 3)).alloc (.cells #[.bool false] 4) = W := ⟨_, rfl⟩
  have hb : Below w.heap.size w W := by rw [← hW]; exact ((Below.refl _ w).alloc (by omega) _).alloc (by simp) _
  have hs3 : W.heap.size = w.heap.size + 2 := by rw [← hW]; simp
  have b0 : Blk W w.heap.size 3 #[.int .i64 0] := by rw [← hW]; exact (Blk.new w _ _).alloc _
  have b1 : Blk W (w.heap.size + 1) 4 #[.bool false] := by
    have h := Blk.new (w.alloc (.cells #[.int .i64 0] 3)) 4 #[.bool false]
    rw [World.size_alloc] at h
    rw [← hW]
    exact h
  have CA := Lib.hid (all_ok none W)
  have HW := Lib.hid hW
  rw [← hW] at CA
  clear hW
  gi_wp2_with (refine ⟨trivial, ?_⟩; gi_at_call 24; refine (callsIn_wide.2 CA.out).mono ?_; rintro e w1 ⟨rfl, rfl⟩)
  rw [HW.out]
  obtain ⟨V, hV⟩ : ∃ V, W.alloc (.cells #[.pointer none] 35) = V := ⟨_, rfl⟩
  have hs4 : V.heap.size = w.heap.size + 3 := by rw [← hV]; simp; omega
  have x0 : Blk V w.heap.size 3 #[.int .i64 0] := by rw [← hV]; exact b0.alloc _
  have x1 : Blk V (w.heap.size + 1) 4 #[.bool false] := by rw [← hV]; exact b1.alloc _
  have x2 : Blk V (w.heap.size + 2) 35 #[.pointer none] := by
    have h := Blk.new W 35 #[.pointer none]
    rw [hs3, hV] at h
    exact h
  have xb : Below w.heap.size w V := by rw [← hV]; exact hb.alloc (by omega) _
  rw [hV]
  clear hV HW b0 b1 hb CA
  have hsq := nil_seq 2 (by decide) (w.heap.size + 2) (fun k => V.heap.size ≤ k) V x2
  refine wpIn_range_boxH rfl h1 (gf := 28) (lb := #[.pointer (some ⟨w.heap.size + 2, 0, none⟩)]) rfl trivial (enters_of Try.func28 (by kernel_rfl) rfl) hsq (by omega) (fun k hk => hk) (fun _ => rfl)
    (fun _ W' => (Blk W' w.heap.size 3 #[.int .i64 0] ∧ Blk W' (w.heap.size + 1) 4 #[.bool false]) ∧ Below w.heap.size w W')
    (fun _ _ _ => False)
    (Ab.and (Ab.and (ab_blk (by omega)) (ab_blk (by omega))) (ab_below (by omega) (by omega) (by omega) _))
    (fun c => ab_pure _ _)
    ⟨⟨x0, x1⟩, xb⟩
    (fun _ _ (_ : World) => True)
    (fun _ _ => ab_pure _ _) ?assign ?body ?done ?stop
  case stop =>
    intro D c' pre W' _ _ hf
    exact hf.elim
  case assign =>
    intro l' pre x W' K hI' hK
    have HI' := Lib.hid hI'
    have HK := Lib.hid hK
    clear hI' hK
    gi_wp2
    exact HK.out _ _ (KeepsFrom.refl _ _) (Kp.refl _ _) HI'.out trivial
  case body =>
    rintro l' pre x a' W' hl _ _ _ hsub
    have h := hsub.length_le
    rw [List.length_append] at h
    simp at h
  case done =>
    rintro D W' hD ⟨⟨hb0, hb1⟩, eb⟩ hK
    have c0 := hb0.cell 0
    have f0 := hb0.frozen 0
    have hc1 := hb1.far (p := ⟨w.heap.size, 0, none⟩) (show w.heap.size + 1 ≠ w.heap.size by omega) (.int .i64 0)
    have c1 := hc1.cell 0
    have f1 := hc1.frozen 0
    have HM0 := Lib.hid ((hb0.set_ 0 (.int .i64 0)).far (p := ⟨w.heap.size + 1, 0, none⟩) (show w.heap.size ≠ w.heap.size + 1 by omega) (.bool false))
    have HM1 := Lib.hid (hc1.set_ 0 (.bool false))
    have EB := Lib.hid ((eb.setCell (p := ⟨w.heap.size, 0, none⟩) (show w.heap.size ≤ w.heap.size by omega) (.int .i64 0)).setCell (p := ⟨w.heap.size + 1, 0, none⟩) (show w.heap.size ≤ w.heap.size + 1 by omega) (.bool false))
    clear hb0 hb1 eb hc1 x0 x1 x2 xb hsq
    gi_wp2
    have hK' : ((W'.setCell ⟨w.heap.size, 0, none⟩ (.int .i64 0)).setCell ⟨w.heap.size + 1, 0, none⟩ (.bool false)).heap[D]? = some (.deferred (some [])) := ((KeepsOthers.setCell W' ⟨w.heap.size, 0, none⟩ (.int .i64 0)).trans (KeepsOthers.setCell _ ⟨w.heap.size + 1, 0, none⟩ (.bool false))).same D _ hK rfl
    refine ⟨by simp, .inl ⟨_, _, rfl, run_takeDeferred hK', ?_⟩⟩
    have hc5 := cell_kept (v := .int .i64 0) (HM0.out.cell 0) (grownBy_putObj' _ D (.deferred none)) (fun r e => by cases e; exact ⟨_, hK', rfl⟩)
    have hc6 := cell_kept (v := .bool false) (HM1.out.cell 0) (grownBy_putObj' _ D (.deferred none)) (fun r e => by cases e; exact ⟨_, hK', rfl⟩)
    have hkD := (Kp.refl (fun k => k = D) ((W'.setCell ⟨w.heap.size, 0, none⟩ (.int .i64 0)).setCell ⟨w.heap.size + 1, 0, none⟩ (.bool false))).grown (grownBy_putObj' _ D (.deferred none)) (fun q e => by cases e; exact .inl rfl)
    refine ⟨.tuple #[.int .i64 0, .bool false], ?_, rfl, below_kp EB.out EB.out.size hkD (fun k hk => by omega)⟩
    simp [results, Try.results16, go_sem, hc5, hc6]
theorem set_nil (a b : Int) (w : World) : Calls Try.prog 8 #[.pointer none, .int .i64 a, .int .i64 b] w fun e w' => e = .returned (.int .i64 2) ∧ Below w.heap.size w w' := by
  have HB := Lib.hid ((Below.refl w.heap.size w).alloc (Nat.le_refl _) (.cells #[.int .i64 a] 3))
  go_enter Try.func8, Try.ntmps8
  go_wp2
  go_ret
  exact ⟨rfl, HB.out⟩
theorem drop_nil (b : Int) (w : World) : Calls Try.prog 12 #[.pointer none, .int .i64 b] w fun e w' => e = .returned (.bool false) ∧ w = w' := by
  go_enter Try.func12, Try.ntmps12
  go_wp2
  go_ret
  exact ⟨rfl, rfl⟩
end Go.Proofs.Ytmheabnpkbhadaa.Sm
