/- Proves: the law TimerDoes's function answers true at every input, and changes nothing that was there. -/
import Derived.Test.YtmheabnpkbhadaaSy
import Derived.Test.YtmheabnpkbhadaaLf
import Derived.Test.YtmheabnpkbhadaaIn
import Derived.Deep.CutBlock
import Derived.Deep.DeepCutAuto
namespace Go.Proofs.Ytmheabnpkbhadaa.TimerDoesW
open Go.RowKit Go.Proofs.Ytmheabnpkbhadaa.Sq Go.Proofs.Ytmheabnpkbhadaa.Sp Go.Proofs.Ytmheabnpkbhadaa.Bk Go.Proofs.Ytmheabnpkbhadaa.Kp Go.Proofs.Ytmheabnpkbhadaa.Rw Go.Proofs.Ytmheabnpkbhadaa.Ow Go.Proofs.Ytmheabnpkbhadaa.In Go.Proofs.Ytmheabnpkbhadaa.Tp Go.Proofs.Ytmheabnpkbhadaa.Tl Go.Proofs.Ytmheabnpkbhadaa.Tq Go.Proofs.Ytmheabnpkbhadaa.Is Go.Proofs.Ytmheabnpkbhadaa.Se Go.Proofs.Ytmheabnpkbhadaa.Du Go.Proofs.Ytmheabnpkbhadaa.Al Go.Proofs.Ytmheabnpkbhadaa.Lw Go.Proofs.Ytmheabnpkbhadaa.Rp Go.Proofs.Ytmheabnpkbhadaa.Rm Go.Proofs.Ytmheabnpkbhadaa.Sm Go.Proofs.Ytmheabnpkbhadaa.Sy
theorem elem0 {w : World} {A : Option Addr} {len : Nat} {vs : List (List Value)} (h : Lf.RowsAt w [.i .i64, .i .i64, .i .i64] A len vs) {k : Nat} (hk : k < len) :
    ∃ (ad : Addr) (x0 : Int) (x1 : Int) (x2 : Int), A = some ad ∧ vs[k]? = some [.int .i64 x0, .int .i64 x1, .int .i64 x2] ∧ w.cell? (ad.add (k * 3)) = some (.int .i64 x0) ∧ w.cell? ⟨(ad.add (k * 3)).block, (ad.add (k * 3)).off + 1, none⟩ = some (.int .i64 x1) ∧ w.cell? ⟨(ad.add (k * 3)).block, (ad.add (k * 3)).off + 2, none⟩ = some (.int .i64 x2) ∧ (Lit.int .i64 x0).wf = true ∧ (Lit.int .i64 x1).wf = true ∧ (Lit.int .i64 x2).wf = true := by
  obtain ⟨ad, c, rfl, hv, hL, hc0, hcj⟩ := h.elem hk
  obtain ⟨u0, g0, q0, ⟨x0, e0, f0⟩, L0⟩ := hL.cons
  obtain ⟨u1, g1, q1, ⟨x1, e1, f1⟩, L1⟩ := L0.cons
  obtain ⟨u2, g2, q2, ⟨x2, e2, f2⟩, L2⟩ := L1.cons
  have n_ := L2.nil
  have hcc : c = [.int .i64 x0, .int .i64 x1, .int .i64 x2] := by rw [q0, e0, q1, e1, q2, e2, n_]
  rw [hcc] at hv hc0 hcj
  exact ⟨ad, x0, x1, x2, rfl, hv, hc0 _ rfl, hcj 0 _ rfl, hcj 1 _ rfl, f0, f1, f2⟩

set_option maxRecDepth 100000 in
set_option maxHeartbeats 8000000 in
theorem walk (a0 : Option Addr) (len0 cap0 : Nat) (z0 : List (List Value)) (W : World) (l0 : len0 ≤ cap0) (m0 : cap0 ≤ maxLen) (w0 : Lf.RowsAt W [.i .i64, .i .i64, .i .i64] a0 len0 z0) :
    Calls Try.prog 6 #[.slice a0 len0 cap0] W fun e w' => e = .returned (.bool true) ∧ Below W.heap.size W w' := by
  have CA := Lib.hid (alive_ok W)
  have hl8 : len0 ≤ 9223372036854775807 := by unfold maxLen at m0; omega
  have R := Lib.hid w0
  clear w0 m0
  by_cases h1 : 200 < len0
  · have h2 : (200 : Int) < (len0 : Int) := by omega
    go_enter Try.func6, Try.ntmps6
    go_wp2_with (go_at_call 7; (with_reducible refine Calls.mono CA.out ?_); rintro e w1 ⟨rfl, hb1⟩; have HB1 := Lib.hid hb1; clear hb1 CA)
    go_ret
    exact ⟨rfl, HB1.out⟩
  have h2 : ¬ (200 : Int) < (len0 : Int) := by omega
  go_enter Try.func6, Try.ntmps6
  go_wp2_with (go_at_call 7; (with_reducible refine Calls.mono CA.out ?_); rintro e w1 ⟨rfl, hb1⟩; have HB1 := Lib.hid hb1; have hge := hb1.size; clear hb1 CA)
  have HS0 : Hid (Sy W ((w1.alloc (.cells #[.slice none 0 0] 26)).alloc (.cells #[.slice none 0 0, .int .i64 0] 39)) w1.heap.size w1.heap.size (srt []) (w1.heap.size + 1) [] 0) := by
    have h2 := Blk.new (w1.alloc (.cells #[.slice none 0 0] 26)) 39 #[.slice none 0 0, .int .i64 0]
    rw [World.size_alloc] at h2
    exact ⟨(RB.new w1).alloc _, ⟨none, 0, h2, fun h => absurd h (by simp)⟩, hge, hge, by omega, (HB1.out.alloc hge _).alloc (by simp; omega) _⟩
  generalize hA : w1.heap.size = A at HS0 hge ⊢
  generalize (w1.alloc (.cells #[.slice none 0 0] 26)).alloc (.cells #[.slice none 0 0, .int .i64 0] 39) = w2 at HS0 ⊢
  clear hA HB1
  go_loopw [22] (fun s22 wr => ∃ k q M t, Aside (k ≤ len0 ∧ s22 = .int .i64 (k : Nat) ∧ Sy W wr A q (srt M) (A + 1) M t ∧ Md M t ∧ 0 ≤ t ∧ t ≤ k)) (fun s22 _ => len0 - (intOf s22).toNat)
  case atStart => exact ⟨0, A, [], 0, Nat.zero_le _, rfl, HS0.out, md_nil 0, by omega, by omega⟩
  case round =>
    obtain ⟨k, q, M, t, hX⟩ := hrel
    obtain ⟨hk, rfl, hS, hM, ht0, htk⟩ := hX.out
    have HS := Lib.hid hS
    have HM := Lib.hid hM
    clear hX hS hM HS0
    by_cases hlt : k < len0
    · have n1 : (k : Int) < (len0 : Int) := by omega
      obtain ⟨ad, x0, x1, x2, rfl, hv, e0, e1, e2, _, _, _⟩ := elem0 R.out hlt
      have hadlt := World.block_lt_of_cell? W _ e0
      have hadlt2 := World.block_lt_of_cell? W _ e1
      have g0 : wr.cell? (ad.add (k * 3)) = some (.int .i64 x0) := (HS.out.bel.cell hadlt).trans e0
      have g1 : wr.cell? ⟨(ad.add (k * 3)).block, (ad.add (k * 3)).off + 1, none⟩ = some (.int .i64 x1) := (HS.out.bel.cell (p := ⟨(ad.add (k * 3)).block, (ad.add (k * 3)).off + 1, none⟩) hadlt2).trans e1
      have g2 : wr.cell? ⟨(ad.add (k * 3)).block, (ad.add (k * 3)).off + 2, none⟩ = some (.int .i64 x2) := (HS.out.bel.cell (p := ⟨(ad.add (k * 3)).block, (ad.add (k * 3)).off + 2, none⟩) hadlt2).trans e2
      clear e0 e1 e2 hv
      have HX0 := Lib.hid (Blk.new wr 41 #[.int .i64 x0, .int .i64 x1, .int .i64 x2])
      have HS2 := Lib.hid (HS.out.keeps ((Below.refl _ wr).alloc (Nat.le_refl _) (.cells #[.int .i64 x0, .int .i64 x1, .int .i64 x2] 41)))
      have hszr := HS.out.bel.size
      clear HS
      go_upto_block 2 with fail
      clear g0 g1 g2
      generalize wr.alloc (.cells #[.int .i64 x0, .int .i64 x1, .int .i64 x2] 41) = w3 at HX0 HS2 ⊢
      generalize wr.heap.size = D at HX0 ⊢
      have b0 := HX0.out.cell 0
      go_cut [] (fun wx => ∃ q' M' t', Sy W wx A q' (srt M') (A + 1) M' t' ∧ Md M' t' ∧ 0 ≤ t' ∧ t' ≤ k + 1)
      case first =>
        by_cases k0 : x0 = 0
        · as_aux_lemma =>
          subst k0
          have b1 : w3.drew.cell? ⟨D, 1, none⟩ = some (.int .i64 x1) := HX0.out.drew.cell 1
          have b2 : w3.drew.cell? ⟨D, 2, none⟩ = some (.int .i64 x2) := HX0.out.drew.cell 2
          have HSd := Lib.hid (HS2.out.keeps ((Below.refl _ w3).drew))
          obtain ⟨m1, m2, m3⟩ := rput_md HM.out x1 x2
          have M1 := Lib.hid m1
          have M2 := Lib.hid m2
          have C1 := Lib.hid (set_ok A q (srt M) x1 x2 w3.drew HSd.out.row (ok_srt HM.out))
          have C2 := Lib.hid (fun w' (h : Rf w' (A + 1) M t) => rset_ok (A + 1) M t x1 x2 w' h HM.out ht0 (by omega))
          rw [m3] at C1
          obtain ⟨cd, hcd⟩ : ∃ cd : Int, (if (fil x2 M).length = 16 then 6 else 0) = cd := ⟨_, rfl⟩
          simp only [hcd] at C1 C2
          have q1 : (cd != cd) = false := by simp
          have htr : t ≤ rtrn M x2 t ∧ rtrn M x2 t ≤ t + 1 := by unfold rtrn; split <;> omega
          clear m1 m2 m3 hcd
          go_wp2
          refine wp_region_seq [(0, true), (1, true), (2, true), (3, true), (5, true), (6, true), (7, true), (8, true), (9, true), (4, false), (10, false), (11, true)] (fun w' => w'.cell? ⟨D, 1, none⟩ = some (.int .i64 x1) ∧ w'.cell? ⟨D, 2, none⟩ = some (.int .i64 x2)) (by kernel_rfl) (by kernel_rfl) ⟨b1, b2⟩ (fun hHeld => ?_)
          clear hHeld
          simp only [List.map_cons, List.map_nil, List.getElem?_toArray, List.getElem?_cons_zero, List.getElem?_cons_succ]
          repeat (first | (refine seq_skip (by rfl) ?_; try simp only [Act.put, List.setIfInBounds_toArray, List.set_cons_zero, List.set_cons_succ]) | (refine seq_not (by rfl) (by assumption) ?_; try simp only [Act.put, List.setIfInBounds_toArray, List.set_cons_zero, List.set_cons_succ]) | (refine seq_take (v := ?_) (by rfl) ?_ ?_; rotate_left; (focus ((intro w hSw; (try dsimp only at hSw); go_simp; (try with_reducible rfl)); done)); try simp only [Act.put, List.setIfInBounds_toArray, List.set_cons_zero, List.set_cons_succ]))
          refine seq_do (fun K hK => ?_)
          go_simp
          go_at_call 8
          (with_reducible refine Calls.mono C1.out ?_)
          rintro e w4 ⟨rfl, hp⟩
          dsimp only
          have HX4 := Lib.hid (HSd.out.far hp.2 (fun k h => by rcases h with h | h; exact .inl h; exact .inr (.inl h)) HX0.out.drew (by decide) (by decide) (by decide))
          obtain ⟨q4, hS4⟩ := HSd.out.post hp
          have HS4 := Lib.hid hS4
          refine hK.out _ _ ⟨HX4.out.cell 1, HX4.out.cell 2⟩ (fun _ => ?_)
          clear hK K hp hS4
          repeat (first | (refine seq_skip (by rfl) ?_; try simp only [Act.put, List.setIfInBounds_toArray, List.set_cons_zero, List.set_cons_succ]) | (refine seq_not (by rfl) (by assumption) ?_; try simp only [Act.put, List.setIfInBounds_toArray, List.set_cons_zero, List.set_cons_succ]) | (refine seq_take (v := ?_) (by rfl) ?_ ?_; rotate_left; (focus ((intro w hSw; (try dsimp only at hSw); go_simp; (try with_reducible rfl)); done)); try simp only [Act.put, List.setIfInBounds_toArray, List.set_cons_zero, List.set_cons_succ]))
          refine seq_do (fun K hK => ?_)
          go_simp
          go_at_call 11
          (with_reducible refine Calls.mono (C2.out _ HS4.out.ref) ?_)
          rintro e w5 ⟨rfl, hr, hk5⟩
          dsimp only
          have HX5 := Lib.hid (HS4.out.far hk5 (fun k h => .inr (.inr h)) HX4.out (by decide) (by decide) (by decide))
          have HS5 := Lib.hid (HS4.out.rpost hr hk5)
          refine hK.out _ _ ⟨HX5.out.cell 1, HX5.out.cell 2⟩ (fun _ => ?_)
          clear hK K hr hk5
          repeat (first | (refine seq_skip (by rfl) ?_; try simp only [Act.put, List.setIfInBounds_toArray, List.set_cons_zero, List.set_cons_succ]) | (refine seq_not (by rfl) (by assumption) ?_; try simp only [Act.put, List.setIfInBounds_toArray, List.set_cons_zero, List.set_cons_succ]) | (refine seq_take (v := ?_) (by rfl) ?_ ?_; rotate_left; (focus ((intro w hSw; (try dsimp only at hSw); go_simp; (try with_reducible rfl)); done)); try simp only [Act.put, List.setIfInBounds_toArray, List.set_cons_zero, List.set_cons_succ]))
          refine seq_done ?_
          go_wp2
          go_meet
          exact ⟨q4, _, _, by rw [M2.out]; exact HS5.out, M1.out, by omega, by omega⟩
        by_cases k1 : x0 = 1
        · as_aux_lemma =>
          subst k1
          have b1 : w3.drew.cell? ⟨D, 1, none⟩ = some (.int .i64 x1) := HX0.out.drew.cell 1
          have b2 : w3.drew.cell? ⟨D, 2, none⟩ = some (.int .i64 x2) := HX0.out.drew.cell 2
          have HSd := Lib.hid (HS2.out.keeps ((Below.refl _ w3).drew))
          obtain ⟨m1, m2, m3⟩ := rput_md HM.out x1 x2
          have M1 := Lib.hid m1
          have M2 := Lib.hid m2
          have C1 := Lib.hid (set_ok A q (srt M) x1 x2 w3.drew HSd.out.row (ok_srt HM.out))
          have C2 := Lib.hid (fun w' (h : Rf w' (A + 1) M t) => rset_ok (A + 1) M t x1 x2 w' h HM.out ht0 (by omega))
          rw [m3] at C1
          obtain ⟨cd, hcd⟩ : ∃ cd : Int, (if (fil x2 M).length = 16 then 6 else 0) = cd := ⟨_, rfl⟩
          simp only [hcd] at C1 C2
          have q1 : (cd != cd) = false := by simp
          have htr : t ≤ rtrn M x2 t ∧ rtrn M x2 t ≤ t + 1 := by unfold rtrn; split <;> omega
          clear m1 m2 m3 hcd
          go_wp2
          refine wp_region_seq [(0, true), (1, true), (2, true), (3, true), (5, true), (6, true), (7, true), (8, true), (9, true), (4, false), (10, false), (11, true)] (fun w' => w'.cell? ⟨D, 1, none⟩ = some (.int .i64 x1) ∧ w'.cell? ⟨D, 2, none⟩ = some (.int .i64 x2)) (by kernel_rfl) (by kernel_rfl) ⟨b1, b2⟩ (fun hHeld => ?_)
          clear hHeld
          simp only [List.map_cons, List.map_nil, List.getElem?_toArray, List.getElem?_cons_zero, List.getElem?_cons_succ]
          repeat (first | (refine seq_skip (by rfl) ?_; try simp only [Act.put, List.setIfInBounds_toArray, List.set_cons_zero, List.set_cons_succ]) | (refine seq_not (by rfl) (by assumption) ?_; try simp only [Act.put, List.setIfInBounds_toArray, List.set_cons_zero, List.set_cons_succ]) | (refine seq_take (v := ?_) (by rfl) ?_ ?_; rotate_left; (focus ((intro w hSw; (try dsimp only at hSw); go_simp; (try with_reducible rfl)); done)); try simp only [Act.put, List.setIfInBounds_toArray, List.set_cons_zero, List.set_cons_succ]))
          refine seq_do (fun K hK => ?_)
          go_simp
          go_at_call 8
          (with_reducible refine Calls.mono C1.out ?_)
          rintro e w4 ⟨rfl, hp⟩
          dsimp only
          have HX4 := Lib.hid (HSd.out.far hp.2 (fun k h => by rcases h with h | h; exact .inl h; exact .inr (.inl h)) HX0.out.drew (by decide) (by decide) (by decide))
          obtain ⟨q4, hS4⟩ := HSd.out.post hp
          have HS4 := Lib.hid hS4
          refine hK.out _ _ ⟨HX4.out.cell 1, HX4.out.cell 2⟩ (fun _ => ?_)
          clear hK K hp hS4
          repeat (first | (refine seq_skip (by rfl) ?_; try simp only [Act.put, List.setIfInBounds_toArray, List.set_cons_zero, List.set_cons_succ]) | (refine seq_not (by rfl) (by assumption) ?_; try simp only [Act.put, List.setIfInBounds_toArray, List.set_cons_zero, List.set_cons_succ]) | (refine seq_take (v := ?_) (by rfl) ?_ ?_; rotate_left; (focus ((intro w hSw; (try dsimp only at hSw); go_simp; (try with_reducible rfl)); done)); try simp only [Act.put, List.setIfInBounds_toArray, List.set_cons_zero, List.set_cons_succ]))
          refine seq_do (fun K hK => ?_)
          go_simp
          go_at_call 11
          (with_reducible refine Calls.mono (C2.out _ HS4.out.ref) ?_)
          rintro e w5 ⟨rfl, hr, hk5⟩
          dsimp only
          have HX5 := Lib.hid (HS4.out.far hk5 (fun k h => .inr (.inr h)) HX4.out (by decide) (by decide) (by decide))
          have HS5 := Lib.hid (HS4.out.rpost hr hk5)
          refine hK.out _ _ ⟨HX5.out.cell 1, HX5.out.cell 2⟩ (fun _ => ?_)
          clear hK K hr hk5
          repeat (first | (refine seq_skip (by rfl) ?_; try simp only [Act.put, List.setIfInBounds_toArray, List.set_cons_zero, List.set_cons_succ]) | (refine seq_not (by rfl) (by assumption) ?_; try simp only [Act.put, List.setIfInBounds_toArray, List.set_cons_zero, List.set_cons_succ]) | (refine seq_take (v := ?_) (by rfl) ?_ ?_; rotate_left; (focus ((intro w hSw; (try dsimp only at hSw); go_simp; (try with_reducible rfl)); done)); try simp only [Act.put, List.setIfInBounds_toArray, List.set_cons_zero, List.set_cons_succ]))
          refine seq_done ?_
          go_wp2
          go_meet
          exact ⟨q4, _, _, by rw [M2.out]; exact HS5.out, M1.out, by omega, by omega⟩
        by_cases k2 : x0 = 2
        · as_aux_lemma =>
          subst k2
          have b2 : w3.drew.cell? ⟨D, 2, none⟩ = some (.int .i64 x2) := HX0.out.drew.cell 2
          have HSd := Lib.hid (HS2.out.keeps ((Below.refl _ w3).drew))
          have C1 := Lib.hid (drop_ok A q (srt M) x2 w3.drew HSd.out.row (ok_srt HM.out))
          have C2 := Lib.hid (fun w' (h : Rf w' (A + 1) M t) => rdrop_ok (A + 1) M t x2 w' h HM.out.len)
          simp only [fil_length] at C2
          obtain ⟨cd, hcd⟩ : ∃ cd : Bool, has (srt M) x2 = cd := ⟨_, rfl⟩
          simp only [hcd] at C1 C2
          have q1 : (cd != cd) = false := by simp
          clear hcd
          go_wp2
          refine wp_region_seq [(0, true), (1, true), (3, true), (4, true), (5, true), (2, false), (6, false), (7, true)] (fun w' => w'.cell? ⟨D, 2, none⟩ = some (.int .i64 x2)) (by kernel_rfl) (by kernel_rfl) b2 (fun hHeld => ?_)
          clear hHeld
          simp only [List.map_cons, List.map_nil, List.getElem?_toArray, List.getElem?_cons_zero, List.getElem?_cons_succ]
          repeat (first | (refine seq_skip (by rfl) ?_; try simp only [Act.put, List.setIfInBounds_toArray, List.set_cons_zero, List.set_cons_succ]) | (refine seq_not (by rfl) (by assumption) ?_; try simp only [Act.put, List.setIfInBounds_toArray, List.set_cons_zero, List.set_cons_succ]) | (refine seq_take (v := ?_) (by rfl) ?_ ?_; rotate_left; (focus ((intro w hSw; (try dsimp only at hSw); go_simp; (try with_reducible rfl)); done)); try simp only [Act.put, List.setIfInBounds_toArray, List.set_cons_zero, List.set_cons_succ]))
          refine seq_do (fun K hK => ?_)
          go_simp
          go_at_call 12
          (with_reducible refine Calls.mono C1.out ?_)
          rintro e w4 ⟨rfl, hp⟩
          dsimp only
          have HX4 := Lib.hid (HSd.out.far hp.2 (fun k h => by rcases h with h | h; exact .inl h; exact .inr (.inl h)) HX0.out.drew (by decide) (by decide) (by decide))
          obtain ⟨q4, hS4⟩ := HSd.out.post hp
          have HS4 := Lib.hid hS4
          refine hK.out _ _ (HX4.out.cell 2) (fun _ => ?_)
          clear hK K hp hS4
          repeat (first | (refine seq_skip (by rfl) ?_; try simp only [Act.put, List.setIfInBounds_toArray, List.set_cons_zero, List.set_cons_succ]) | (refine seq_not (by rfl) (by assumption) ?_; try simp only [Act.put, List.setIfInBounds_toArray, List.set_cons_zero, List.set_cons_succ]) | (refine seq_take (v := ?_) (by rfl) ?_ ?_; rotate_left; (focus ((intro w hSw; (try dsimp only at hSw); go_simp; (try with_reducible rfl)); done)); try simp only [Act.put, List.setIfInBounds_toArray, List.set_cons_zero, List.set_cons_succ]))
          refine seq_do (fun K hK => ?_)
          go_simp
          go_at_call 13
          (with_reducible refine Calls.mono (C2.out _ HS4.out.ref) ?_)
          rintro e w5 ⟨⟨rfl, hr, hk5⟩, _⟩
          dsimp only
          have HX5 := Lib.hid (HS4.out.far hk5 (fun k h => .inr (.inr h)) HX4.out (by decide) (by decide) (by decide))
          have HS5 := Lib.hid (HS4.out.rpost hr hk5)
          refine hK.out _ _ (HX5.out.cell 2) (fun _ => ?_)
          clear hK K hr hk5
          repeat (first | (refine seq_skip (by rfl) ?_; try simp only [Act.put, List.setIfInBounds_toArray, List.set_cons_zero, List.set_cons_succ]) | (refine seq_not (by rfl) (by assumption) ?_; try simp only [Act.put, List.setIfInBounds_toArray, List.set_cons_zero, List.set_cons_succ]) | (refine seq_take (v := ?_) (by rfl) ?_ ?_; rotate_left; (focus ((intro w hSw; (try dsimp only at hSw); go_simp; (try with_reducible rfl)); done)); try simp only [Act.put, List.setIfInBounds_toArray, List.set_cons_zero, List.set_cons_succ]))
          refine seq_done ?_
          go_wp2
          go_meet
          exact ⟨q4, fil x2 M, t, by rw [srt_fil]; exact HS5.out, md_fil HM.out x2, by omega, by omega⟩
        have k0b : (x0 == 0) = false := by simpa using k0
        have k1b : (x0 == 1) = false := by simpa using k1
        have k2b : (x0 == 2) = false := by simpa using k2
        clear k0 k1 k2
        have b1 : w3.drew.cell? ⟨D, 1, none⟩ = some (.int .i64 x1) := HX0.out.drew.cell 1
        have HSd := Lib.hid (HS2.out.keeps ((Below.refl _ w3).drew))
        have hdl := dues_length (srt M) x1
        have h16 := (ok_srt HM.out).len
        have C1 := Lib.hid (due_ok A q (srt M) x1 w3.drew HSd.out.row h16)
        have C2 := Lib.hid (fun w' (h : Rf w' (A + 1) M t) => rdue_ok (A + 1) M t x1 w' h HM.out)
        obtain ⟨DD, hDD⟩ : ∃ DD, dues (srt M) x1 = DD := ⟨_, rfl⟩
        simp only [hDD] at C1 C2 hdl
        obtain ⟨N, hN⟩ : ∃ N, DD.length = N := ⟨_, rfl⟩
        have hN16 : N ≤ 16 := by omega
        have q1 : ((N : Int) != (N : Int)) = false := by simp
        clear hDD
        go_wp2
        refine wp_region_seq [(0, true), (1, true), (3, true), (4, true), (5, true), (2, false), (6, false), (7, true), (8, true)] (fun w' => w'.cell? ⟨D, 1, none⟩ = some (.int .i64 x1)) (by kernel_rfl) (by kernel_rfl) b1 (fun hHeld => ?_)
        clear hHeld
        simp only [List.map_cons, List.map_nil, List.getElem?_toArray, List.getElem?_cons_zero, List.getElem?_cons_succ]
        repeat (first | (refine seq_skip (by rfl) ?_; try simp only [Act.put, List.setIfInBounds_toArray, List.set_cons_zero, List.set_cons_succ]) | (refine seq_not (by rfl) (by assumption) ?_; try simp only [Act.put, List.setIfInBounds_toArray, List.set_cons_zero, List.set_cons_succ]) | (refine seq_take (v := ?_) (by rfl) ?_ ?_; rotate_left; (focus ((intro w hSw; (try dsimp only at hSw); go_simp; (try with_reducible rfl)); done)); try simp only [Act.put, List.setIfInBounds_toArray, List.set_cons_zero, List.set_cons_succ]))
        refine seq_do (fun K hK => ?_)
        go_simp
        go_at_call 9
        (with_reducible refine Calls.mono C1.out ?_)
        rintro e w4 ⟨⟨v4, rfl, ho4⟩, hr4, hk4⟩
        dsimp only
        have HX4 := Lib.hid (HSd.out.far hk4 (fun k h => .inl h) HX0.out.drew (by decide) (by decide) (by decide))
        have HO4 := Lib.hid ho4
        obtain ⟨q4, hS4⟩ := HSd.out.post ⟨⟨q, hr4, .inl rfl⟩, hk4.mono (fun k _ h => .inl h)⟩
        have HS4 := Lib.hid hS4
        refine hK.out _ _ (HX4.out.cell 1) (fun _ => ?_)
        clear hK K hr4 hk4 hS4 ho4
        repeat (first | (refine seq_skip (by rfl) ?_; try simp only [Act.put, List.setIfInBounds_toArray, List.set_cons_zero, List.set_cons_succ]) | (refine seq_not (by rfl) (by assumption) ?_; try simp only [Act.put, List.setIfInBounds_toArray, List.set_cons_zero, List.set_cons_succ]) | (refine seq_take (v := ?_) (by rfl) ?_ ?_; rotate_left; (focus ((intro w hSw; (try dsimp only at hSw); go_simp; (try with_reducible rfl)); done)); try simp only [Act.put, List.setIfInBounds_toArray, List.set_cons_zero, List.set_cons_succ]))
        refine seq_do (fun K hK => ?_)
        go_simp
        go_at_call 14
        (with_reducible refine Calls.mono (C2.out _ HS4.out.ref) ?_)
        rintro e w5 ⟨⟨v5, rfl, ho5⟩, ⟨M5, hr5, hM5, hs5⟩, hk5⟩
        dsimp only
        have HX5 := Lib.hid (HS4.out.far hk5 (fun k h => .inr (.inr h)) HX4.out (by decide) (by decide) (by decide))
        obtain ⟨AX, cX, rfl, _, hx⟩ := (HS4.out.oi hk5 (fun k h => .inr (.inr h)) HO4.out).ri
        obtain ⟨AY, cY, rfl, _, hy⟩ := ho5.ri
        have HX := Lib.hid hx
        have HY := Lib.hid hy
        have hS5 := HS4.out.rpost hr5 hk5
        rw [← hs5] at hS5
        have HS5 := Lib.hid hS5
        have HM5 := Lib.hid hM5
        refine hK.out _ _ (HX5.out.cell 1) (fun _ => ?_)
        clear hK K hr5 hk5 hS5 ho5 hs5 hM5 hx hy
        repeat (first | (refine seq_skip (by rfl) ?_; try simp only [Act.put, List.setIfInBounds_toArray, List.set_cons_zero, List.set_cons_succ]) | (refine seq_not (by rfl) (by assumption) ?_; try simp only [Act.put, List.setIfInBounds_toArray, List.set_cons_zero, List.set_cons_succ]) | (refine seq_take (v := ?_) (by rfl) ?_ ?_; rotate_left; (focus ((intro w hSw; (try dsimp only at hSw); go_simp; (try with_reducible rfl)); done)); try simp only [Act.put, List.setIfInBounds_toArray, List.set_cons_zero, List.set_cons_succ]))
        refine seq_done ?_
        rw [hN]
        go_wp2
        go_loopw [42] (fun ss wr => ∃ j, Aside (j ≤ N ∧ ss = .int .i64 (j : Nat) ∧ Ri .i64 wr AX DD ∧ Ri .i64 wr AY DD ∧ Sy W wr A q4 (srt M5) (A + 1) M5 t)) (fun ss _ => N - (intOf ss).toNat)
        case atStart => exact ⟨0, Nat.zero_le _, rfl, HX.out, HY.out, HS5.out⟩
        case round =>
          obtain ⟨j, hj, rfl, hx, hy, hb⟩ := hrel
          have HXr := Lib.hid hx
          have HYr := Lib.hid hy
          have HBr := Lib.hid hb
          clear hx hy hb HX HY HS5
          by_cases hltj : j < N
          · have n2 : (j : Int) < (N : Int) := by omega
            obtain ⟨ae, rfl, _, hc1⟩ := HXr.out.drew.at_ (show j < DD.length by omega)
            obtain ⟨af, rfl, _, hc2⟩ := HYr.out.drew.at_ (show j < DD.length by omega)
            obtain ⟨d, hd⟩ : ∃ d, DD.getD j 0 = d := ⟨_, rfl⟩
            rw [hd] at hc1 hc2
            clear hd
            go_wp2
            go_region
            go_wp2
            go_roundw
            case rel => exact ⟨j + 1, by omega, by go_num, HXr.out.drew, HYr.out.drew, HBr.out.keeps ((Below.refl _ wr).drew)⟩
            case measure => simp [intOf]; omega
          · go_wp2
            go_meet
            exact ⟨q4, M5, t, HBr.out, HM5.out, by omega, by omega⟩
      case rest =>
        obtain ⟨q6, M6, t6, hS6, hM6, ht60, ht6⟩ := hcut
        have HS6 := Lib.hid (hS6.keeps ((Below.refl _ wc).drew))
        have HM6 := Lib.hid hM6
        obtain ⟨AM, cM, hbm, hAM⟩ := HS6.out.ref
        obtain ⟨N, hN⟩ : ∃ N, M6.length = N := ⟨_, rfl⟩
        have hN16 : N ≤ 16 := by have := hM6.len; omega
        have HBM := Lib.hid hbm
        have HAM := Lib.hid hAM
        have c0 : wc.drew.cell? ⟨A + 1, 0, none⟩ = some (.slice AM N cM) := by have := hbm.cell 0; rw [hN] at this; exact this
        have C1 := Lib.hid (len_ok A q6 (srt M6) wc.drew HS6.out.row)
        rw [srt_length, hN] at C1
        have q1 : ((N : Int) != (N : Int)) = false := by simp
        clear hS6 hM6 hbm hAM HS2 HX0 b0 HM
        go_wp2
        refine wp_region_seq [(1, true), (2, true), (3, true), (4, true), (5, true), (0, false), (6, true), (7, true), (9, true), (10, true), (11, true), (12, true), (8, false), (13, false), (14, true), (15, false), (16, true), (17, true)] (fun w' => w'.cell? ⟨A + 1, 0, none⟩ = some (.slice AM N cM)) (by kernel_rfl) (by kernel_rfl) c0 (fun hHeld => ?_)
        clear hHeld
        simp only [List.map_cons, List.map_nil, List.getElem?_toArray, List.getElem?_cons_zero, List.getElem?_cons_succ]
        repeat (first | (refine seq_skip (by rfl) ?_; try simp only [Act.put, List.setIfInBounds_toArray, List.set_cons_zero, List.set_cons_succ]) | (refine seq_not (by rfl) (by assumption) ?_; try simp only [Act.put, List.setIfInBounds_toArray, List.set_cons_zero, List.set_cons_succ]) | (refine seq_take (v := ?_) (by rfl) ?_ ?_; rotate_left; (focus ((intro w hSw; (try dsimp only at hSw); go_simp; (try with_reducible rfl)); done)); try simp only [Act.put, List.setIfInBounds_toArray, List.set_cons_zero, List.set_cons_succ]))
        refine seq_do (fun K hK => ?_)
        go_simp
        go_at_call 10
        (with_reducible refine Calls.mono C1.out ?_)
        rintro e w6 ⟨rfl, rfl⟩
        dsimp only
        refine hK.out _ _ c0 (fun _ => ?_)
        clear hK K
        repeat (first | (refine seq_skip (by rfl) ?_; try simp only [Act.put, List.setIfInBounds_toArray, List.set_cons_zero, List.set_cons_succ]) | (refine seq_not (by rfl) (by assumption) ?_; try simp only [Act.put, List.setIfInBounds_toArray, List.set_cons_zero, List.set_cons_succ]) | (refine seq_take (v := ?_) (by rfl) ?_ ?_; rotate_left; (focus ((intro w hSw; (try dsimp only at hSw); go_simp; (try with_reducible rfl)); done)); try simp only [Act.put, List.setIfInBounds_toArray, List.set_cons_zero, List.set_cons_succ]))
        refine seq_do (fun K hK => ?_)
        go_simp
        have hal : (wc.drew.alloc (.cells #[] 57)).cell? ⟨A + 1, 0, none⟩ = some (.slice AM N cM) := by have := (HBM.out.alloc (.cells #[] 57)).cell 0; rw [hN] at this; exact this
        refine hK.out _ _ hal (fun _ => ?_)
        clear hK K
        repeat (first | (refine seq_skip (by rfl) ?_; try simp only [Act.put, List.setIfInBounds_toArray, List.set_cons_zero, List.set_cons_succ]) | (refine seq_not (by rfl) (by assumption) ?_; try simp only [Act.put, List.setIfInBounds_toArray, List.set_cons_zero, List.set_cons_succ]) | (refine seq_take (v := ?_) (by rfl) ?_ ?_; rotate_left; (focus ((intro w hSw; (try dsimp only at hSw); go_simp; (try with_reducible rfl)); done)); try simp only [Act.put, List.setIfInBounds_toArray, List.set_cons_zero, List.set_cons_succ]))
        refine seq_do (fun K hK => ?_)
        have HRo := Lib.hid (show Ro (wc.drew.alloc (.cells #[] 57)) wc.heap.size (.slice (some ⟨wc.heap.size, 0, none⟩) 0 0) [] from World.ownsRow_lit (size := 3) (e := 57) wc.drew #[] 0 (Nat.le_refl _) (by unfold maxLen; omega) (by simp))
        have HEA := Lib.hid (show 0 < M6.length → ∃ g, AM = some ⟨g, 0, none⟩ ∧ E3 (wc.drew.alloc (.cells #[] 57)) g M6 from fun h => by
          obtain ⟨g, h1, _, h2⟩ := HAM.out h
          exact ⟨g, h1, h2.kp (S := fun _ => False) ((Kp.refl _ _).alloc _) (fun h => h)⟩)
        refine step_copy3 wc.heap.size _ (.agg #[.int .i64 0, .int .i64 0, .int .i64 0]) (by rfl) _ _ 37 rfl Try.underlying37 (by kernel_rfl) rfl _ rfl HRo.out _ _ _ M6 hN rfl HEA.out (by omega) (by simp) ?_
        intro v7 w7 ho7 hg7
        obtain ⟨A3, c3, rfl, hA3⟩ := ho7.form
        have hb7 : Below wc.heap.size wc.drew w7 := Below.grown ((Below.refl wc.heap.size wc.drew).alloc (Nat.le_refl _) (.cells #[] 57)) hg7 (by simp) (fun p hp => (World.ownsRow.lt HRo.out p hp).1)
        have HS7 := Lib.hid (HS6.out.keeps hb7)
        have c7 : w7.cell? ⟨A + 1, 0, none⟩ = some (.slice AM N cM) := by have := (HBM.out.keeps hb7).cell 0; rw [hN] at this; exact this
        have HBM7 := Lib.hid (HBM.out.keeps hb7)
        have CS := Lib.hid (same_ok A q6 A3 c3 M6 0 t6 w7 HS7.out.row HM6.out (fun a ha => by subst ha; exact (World.ownsRow.lt ho7 a.block rfl).2) (fun h => by obtain ⟨g, h1, _, h2⟩ := hA3 h; exact ⟨g, h1, h2⟩))
        rw [hN] at CS
        refine hK.out _ _ c7 (fun _ => ?_)
        clear hK K hb7 ho7 hg7 hA3 HRo HEA
        repeat (first | (refine seq_skip (by rfl) ?_; try simp only [Act.put, List.setIfInBounds_toArray, List.set_cons_zero, List.set_cons_succ]) | (refine seq_not (by rfl) (by assumption) ?_; try simp only [Act.put, List.setIfInBounds_toArray, List.set_cons_zero, List.set_cons_succ]) | (refine seq_take (v := ?_) (by rfl) ?_ ?_; rotate_left; (focus ((intro w hSw; (try dsimp only at hSw); go_simp; (try with_reducible rfl)); done)); try simp only [Act.put, List.setIfInBounds_toArray, List.set_cons_zero, List.set_cons_succ]))
        refine seq_do (fun K hK => ?_)
        go_simp
        go_at_call 15
        (with_reducible refine Calls.mono CS.out ?_)
        rintro e w8 ⟨rfl, hb8⟩
        dsimp only
        have HS8 := Lib.hid (HS7.out.keeps hb8)
        have c8 : w8.cell? ⟨A + 1, 0, none⟩ = some (.slice AM N cM) := by have := (HBM7.out.keeps hb8).cell 0; rw [hN] at this; exact this
        refine hK.out _ _ c8 (fun _ => ?_)
        clear hK K hb8
        repeat (first | (refine seq_skip (by rfl) ?_; try simp only [Act.put, List.setIfInBounds_toArray, List.set_cons_zero, List.set_cons_succ]) | (refine seq_not (by rfl) (by assumption) ?_; try simp only [Act.put, List.setIfInBounds_toArray, List.set_cons_zero, List.set_cons_succ]) | (refine seq_take (v := ?_) (by rfl) ?_ ?_; rotate_left; (focus ((intro w hSw; (try dsimp only at hSw); go_simp; (try with_reducible rfl)); done)); try simp only [Act.put, List.setIfInBounds_toArray, List.set_cons_zero, List.set_cons_succ]))
        refine seq_done ?_
        go_wp2
        go_roundw
        case rel => exact ⟨k + 1, q6, M6, t6, by omega, by go_num, HS8.out, HM6.out, ht60, by omega⟩
        case measure => simp [intOf]; omega
    · have hk : k = len0 := by omega
      subst hk
      have CF := Lib.hid (first_nil wr)
      go_wp2_with (first
        | (go_at_call 16; (with_reducible refine Calls.mono CF.out ?_); rintro e w6 ⟨rfl, hb6⟩; have HB6 := Lib.hid (HS.out.bel.trans (hb6.mono HS.out.bel.size)); clear hb6)
        | (go_at_call 8; (with_reducible refine Calls.mono (set_nil 1 1 _) ?_); rintro e w7 ⟨rfl, hb7⟩; have HB7 := Lib.hid (HB6.out.trans (hb7.mono HB6.out.size)); clear hb7)
        | (go_at_call 12; (with_reducible refine Calls.mono (drop_nil 1 _) ?_); rintro e w8 ⟨rfl, rfl⟩)
        | (go_at_call 9; (with_reducible refine Calls.mono (due_nil 1 _) ?_); rintro e w9 ⟨rfl, rfl⟩)
        | (go_at_call 10; (with_reducible refine Calls.mono (len_nil _) ?_); rintro e w10 ⟨rfl, rfl⟩))
      go_ret
      exact ⟨rfl, HB7.out⟩
end Go.Proofs.Ytmheabnpkbhadaa.TimerDoesW
