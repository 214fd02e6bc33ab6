/- Proves: the law LinksDo's function answers true at every input, and changes nothing that was there; over the table that the library lays. -/
import Derived.Test.YtfmkamkbbeahgaaDoorLa
import Derived.Test.YtfmkamkbbeahgaaDoorSc
import Derived.Test.YtfmkamkbbeahgaaDoorRf
import Derived.Test.YtfmkamkbbeahgaaDoorRm
import Derived.Test.YtfmkamkbbeahgaaDoorWn
import Derived.Test.YtfmkamkbbeahgaaDoorLf
import Derived.Test.YtfmkamkbbeahgaaDoorSq
namespace Go.Proofs.YtfmkamkbbeahgaaDoor.LinksDoW
open Go.RowKit Go.Proofs.YtfmkamkbbeahgaaDoor.Sq Go.Proofs.YtfmkamkbbeahgaaDoor.Bk Go.Proofs.YtfmkamkbbeahgaaDoor.Rw Go.Proofs.YtfmkamkbbeahgaaDoor.Ow Go.Proofs.YtfmkamkbbeahgaaDoor.Kp Go.Proofs.YtfmkamkbbeahgaaDoor.Bl Go.Proofs.YtfmkamkbbeahgaaDoor.Tz Go.Proofs.YtfmkamkbbeahgaaDoor.Lk Go.Proofs.YtfmkamkbbeahgaaDoor.Hm Go.Proofs.YtfmkamkbbeahgaaDoor.Ho Go.Proofs.YtfmkamkbbeahgaaDoor.Bm Go.Proofs.YtfmkamkbbeahgaaDoor.Sc Go.Proofs.YtfmkamkbbeahgaaDoor.Rf Go.Proofs.YtfmkamkbbeahgaaDoor.Rm Go.Proofs.YtfmkamkbbeahgaaDoor.Wn Go.Proofs.YtfmkamkbbeahgaaDoor.La
/-- Who hears whom, behind a Set. -/
theorem has_step {a : List Nat} (h : Sy a) (hl : a.length ≤ 64) (i k : Int) (o : Bool) :
    (isn (Sc.step a i k o) k && (set_ (Sc.step a i k o) i).testBit k.toNat) = (mayb a i k && o) ∧ (isn (Sc.step a i k o) i && (set_ (Sc.step a i k o) k).testBit i.toNat) = (mayb a i k && o) := by
  have key : ∀ (b : List Nat) (i k : Int), b.length = a.length → (isn b k && (set_ b i).testBit k.toNat) = (isn a i && isn a k && B b i.toNat k.toNat) := by
    intro b i k hb
    unfold isn set_ isn B
    rw [hb]
    by_cases hi : (decide (0 ≤ i) && decide (i < (a.length : Int))) = true
    · rw [if_pos hi, hi]
      simp
    · rw [if_neg hi]
      have hi2 : (decide (0 ≤ i) && decide (i < (a.length : Int))) = false := by simpa using hi
      rw [hi2]
      simp
  rw [key _ i k (step_length a i k o), key _ k i (step_length a i k o)]
  have hs := h.step hl i k o
  rw [hs.both k.toNat i.toNat]
  have e : (isn a i && isn a k && B (Sc.step a i k o) i.toNat k.toNat) = (mayb a i k && o) := by
    cases hm : mayb a i k with
    | true =>
      have hm2 := hm
      simp only [mayb, isn, Bool.and_eq_true, decide_eq_true_eq, Bool.not_eq_true', beq_eq_false_iff_ne] at hm2
      have e1 : isn a i = true := by simp [isn]; omega
      have e2 : isn a k = true := by simp [isn]; omega
      unfold Sc.step
      rw [if_pos hm, link_bit h.small (by omega) (by omega) hl (by omega), if_pos (.inl ⟨rfl, rfl⟩), e1, e2]
      rfl
    | false =>
      unfold Sc.step
      rw [if_neg (by rw [hm]; decide)]
      simp only [mayb] at hm
      cases e1 : isn a i with
      | false => rfl
      | true =>
        cases e2 : isn a k with
        | false => rfl
        | true =>
          rw [e1, e2] at hm
          have : i = k := by simpa using hm
          subst this
          rw [h.self]
          rfl
  refine ⟨e, ?_⟩
  rw [Bool.and_comm (isn a k) (isn a i)]
  exact e
theorem mayb_step (a : List Nat) (i k x y : Int) (o : Bool) : mayb (Sc.step a i k o) x y = mayb a x y := by
  unfold mayb isn
  rw [step_length]
theorem elem1 {w : World} {A : Option Addr} {len : Nat} {vs : List (List Value)} (h : Lf.RowsAt w [.i .i64, .i .i64, .b] A len vs) {k : Nat} (hk : k < len) :
    ∃ (ad : Addr) (x0 : Int) (x1 : Int) (x2 : Bool), A = some ad ∧ vs[k]? = some [.int .i64 x0, .int .i64 x1, .bool x2] ∧ w.cell? (ad.add (k * 3)) = some (.int .i64 x0) ∧ w.cell? ⟨(ad.add (k * 3)).block, (ad.add (k * 3)).off + 1, none⟩ = some (.int .i64 x1) ∧ w.cell? ⟨(ad.add (k * 3)).block, (ad.add (k * 3)).off + 2, none⟩ = some (.bool x2) ∧ (Lit.int .i64 x0).wf = true ∧ (Lit.int .i64 x1).wf = true := by
  obtain ⟨ad, c, rfl, hv, hL, hc0, hcj⟩ := h.elem hk
  obtain ⟨u0, g0, q0, ⟨x0, e0, f0⟩, L0⟩ := hL.cons
  obtain ⟨u1, g1, q1, ⟨x1, e1, f1⟩, L1⟩ := L0.cons
  obtain ⟨u2, g2, q2, ⟨x2, e2⟩, L2⟩ := L1.cons
  have n_ := L2.nil
  have hcc : c = [.int .i64 x0, .int .i64 x1, .bool x2] := by rw [q0, e0, q1, e1, q2, e2, n_]
  rw [hcc] at hv hc0 hcj
  exact ⟨ad, x0, x1, x2, rfl, hv, hc0 _ rfl, hcj 0 _ rfl, hcj 1 _ rfl, f0, f1⟩
set_option maxRecDepth 100000 in
set_option maxHeartbeats 10000000 in
set_option linter.unusedVariables false in
set_option linter.unusedSimpArgs false in
theorem walk (a0 : Int) (a1 : Option Addr) (len1 cap1 : Nat) (z1 : List (List Value)) (W : World) (w0 : (Lit.int .i64 a0).wf = true) (l1 : len1 ≤ cap1) (m1 : cap1 ≤ maxLen) (w1 : Lf.RowsAt W [.i .i64, .i .i64, .b] a1 len1 z1) (wL : Go.Proofs.YtfmkamkbbeahgaaDoor.Tz.Tab W) :
    Calls Tryd.prog 8 #[.int .i64 a0, .slice a1 len1 cap1] W fun e w' => e = .returned (.bool true) ∧ Below W.heap.size W w' := by
  have u0 : -9223372036854775808 ≤ a0 ∧ a0 ≤ 9223372036854775807 := by
    have h := w0
    simp only [Lit.wf, Bool.and_eq_true, decide_eq_true_eq] at h
    exact ⟨h.1, h.2⟩
  have HT := Lib.hid wL
  have CA := Lib.hid (alive_ok W wL)
  have HW := Lib.hid w1
  have hw0 := wL.1
  clear wL w0 w1
  have W0 := Lib.hid (wide_nil 1)
  by_cases h3 : 100 < len1
  · have h4 : (100 : Int) < (len1 : Int) := by omega
    go_enter Tryd.func8, Tryd.ntmps8
    go_wp2_with (go_at_call 9; (with_reducible refine Calls.mono CA.out ?_); rintro e wa ⟨rfl, hb⟩; have HBa := Lib.hid hb; clear hb)
    go_ret
    exact ⟨rfl, HBa.out⟩
  have h4 : ¬ (100 : Int) < (len1 : Int) := by omega
  by_cases h1 : a0 < 1
  · have CN := Lib.hid (fun w => new_no a0 w (.inl h1))
    go_enter Tryd.func8, Tryd.ntmps8
    go_wp2_with (go_at_call 9; (with_reducible refine Calls.mono CA.out ?_); rintro e wa ⟨rfl, hb⟩; have HBa := Lib.hid hb; clear hb)
    refine Calls.mono (CN.out _) ?_
    rintro e w1 ⟨rfl, rfl⟩
    go_wp2_with (go_at_call 18; (with_reducible refine Calls.mono (W0.out _) ?_); rintro e w2 ⟨rfl, hb⟩)
    have HB2 := Lib.hid (HBa.out.trans (hb.mono HBa.out.size))
    clear hb
    go_wp2_with (first
      | (go_at_call 14; (with_reducible refine Calls.mono (set_nil 0 1 true _) ?_); rintro e w3 ⟨rfl, rfl⟩)
      | (go_at_call 22; (with_reducible refine Calls.mono (len_n _) ?_); rintro e w3 ⟨rfl, rfl⟩)
      | (go_at_call 23; (with_reducible refine Calls.mono (near_n _) ?_); rintro e w3 ⟨rfl, rfl⟩)
      | (go_at_call 16; (with_reducible refine Calls.mono (has_n _) ?_); rintro e w3 ⟨rfl, rfl⟩)
      | (go_at_call 21; (with_reducible refine Calls.mono (may_n _) ?_); rintro e w3 ⟨rfl, rfl⟩)
      | (go_at_call 15; (with_reducible refine Calls.mono (hops_nil 0 1 _) ?_); rintro e w3 ⟨rfl, hb⟩))
    have HB3 := Lib.hid (HB2.out.trans (hb.mono HB2.out.size))
    clear hb
    go_wp2
    go_ret
    exact ⟨rfl, HB3.out⟩
  by_cases h2 : 64 < a0
  · have CN := Lib.hid (fun w => new_no a0 w (.inr h2))
    go_enter Tryd.func8, Tryd.ntmps8
    go_wp2_with (go_at_call 9; (with_reducible refine Calls.mono CA.out ?_); rintro e wa ⟨rfl, hb⟩; have HBa := Lib.hid hb; clear hb)
    refine Calls.mono (CN.out _) ?_
    rintro e w1 ⟨rfl, rfl⟩
    go_wp2_with (go_at_call 18; (with_reducible refine Calls.mono (W0.out _) ?_); rintro e w2 ⟨rfl, hb⟩)
    have HB2 := Lib.hid (HBa.out.trans (hb.mono HBa.out.size))
    clear hb
    go_wp2_with (first
      | (go_at_call 14; (with_reducible refine Calls.mono (set_nil 0 1 true _) ?_); rintro e w3 ⟨rfl, rfl⟩)
      | (go_at_call 22; (with_reducible refine Calls.mono (len_n _) ?_); rintro e w3 ⟨rfl, rfl⟩)
      | (go_at_call 23; (with_reducible refine Calls.mono (near_n _) ?_); rintro e w3 ⟨rfl, rfl⟩)
      | (go_at_call 16; (with_reducible refine Calls.mono (has_n _) ?_); rintro e w3 ⟨rfl, rfl⟩)
      | (go_at_call 21; (with_reducible refine Calls.mono (may_n _) ?_); rintro e w3 ⟨rfl, rfl⟩)
      | (go_at_call 15; (with_reducible refine Calls.mono (hops_nil 0 1 _) ?_); rintro e w3 ⟨rfl, hb⟩))
    have HB3 := Lib.hid (HB2.out.trans (hb.mono HB2.out.size))
    clear hb
    go_wp2
    go_ret
    exact ⟨rfl, HB3.out⟩
  obtain ⟨n, rfl⟩ : ∃ n : Nat, a0 = n := ⟨a0.toNat, by omega⟩
  have CN := Lib.hid (fun w => new_ok n w (by omega) (by omega))
  go_enter Tryd.func8, Tryd.ntmps8
  go_wp2_with (go_at_call 9; (with_reducible refine Calls.mono CA.out ?_); rintro e wa ⟨rfl, hb⟩; have HBa := Lib.hid hb; clear hb)
  refine Calls.mono (CN.out _) ?_
  rintro e w1 ⟨p, g, rfl, hL, hp, hg, hb⟩
  have hsa := HBa.out.size
  have HB1 := Lib.hid (HBa.out.trans (hb.mono HBa.out.size))
  have HL1 := Lib.hid hL
  clear hb hL CN CA HBa
  go_wp2_with (go_at_call 18; (with_reducible refine Calls.mono (W0.out _) ?_); rintro e w2 ⟨rfl, hb⟩)
  have HB2 := Lib.hid (HB1.out.trans (hb.mono HB1.out.size))
  have HL2 := Lib.hid (HL1.out.below hb)
  clear hb HL1 HB1
  have hz := zZ
  have hs := Z_size
  obtain ⟨Z0, hZ⟩ : ∃ Z0, Z = Z0 := ⟨_, rfl⟩
  rw [hZ] at hz hs
  have hn : (Z0 = #[]) = False := by
    rw [eq_iff_iff]
    constructor
    · intro h
      rw [h] at hs
      simp at hs
    · exact False.elim
  have HZ := Lib.hid hZ
  clear hZ
  go_wp2_with (first
    | (go_at_call 14; (with_reducible refine Calls.mono (set_nil 0 1 true _) ?_); rintro e w3 ⟨rfl, rfl⟩)
    | (go_at_call 22; (with_reducible refine Calls.mono (len_n _) ?_); rintro e w3 ⟨rfl, rfl⟩)
    | (go_at_call 23; (with_reducible refine Calls.mono (near_n _) ?_); rintro e w3 ⟨rfl, rfl⟩)
    | (go_at_call 16; (with_reducible refine Calls.mono (has_n _) ?_); rintro e w3 ⟨rfl, rfl⟩)
    | (go_at_call 21; (with_reducible refine Calls.mono (may_n _) ?_); rintro e w3 ⟨rfl, rfl⟩)
    | (go_at_call 15; (with_reducible refine Calls.mono (hops_nil 0 1 _) ?_); rintro e w3 ⟨rfl, hb⟩))
  have HB3 := Lib.hid (HB2.out.trans (hb.mono HB2.out.size))
  have HL3 := Lib.hid (HL2.out.below hb)
  clear hb HL2 HB2
  have hRe := Lib.hid (Re.new n w3)
  rw [HZ.out] at hRe
  have HB4 := Lib.hid (HB3.out.alloc HB3.out.size (.cells (Z0.setIfInBounds 0 (.int .i64 n)) 44))
  have HL4 := Lib.hid (HL3.out.below ((Below.refl _ _).alloc (Nat.le_refl _) (.cells (Z0.setIfInBounds 0 (.int .i64 n)) 44)))
  have hpg := HL3.out.lt
  have hsz := HB3.out.size
  clear HB3 HL3 hz hs hn HZ
  generalize w3.alloc (.cells (Z0.setIfInBounds 0 (.int .i64 n)) 44) = w4 at *
  generalize w3.heap.size = m at *
  go_loopw [77] (fun i wr => ∃ k : Nat, k ≤ len1 ∧ i = .int .i64 k ∧ Ln wr p g (run (List.replicate n 0) (z1.take k)) ∧ Re wr m (run (List.replicate n 0) (z1.take k)) ∧ Below W.heap.size W wr) (fun i _ => len1 - (intOf i).toNat)
  case atStart => exact ⟨0, Nat.zero_le _, rfl, HL4.out, hRe.out, HB4.out⟩
  case round =>
    obtain ⟨k, hk, rfl, hL, hR, hB⟩ := hrel
    have hsy : Sy (run (List.replicate n 0) (z1.take k)) := Sy.run _ (Sy.none n) (by simp; omega)
    have hal : (run (List.replicate n 0) (z1.take k)).length = n := by rw [run_length, List.length_replicate]
    by_cases hlt : k < len1
    · have n1 : (k : Int) < (len1 : Int) := by omega
      obtain ⟨ad, x0, x1, x2, rfl, hv, t0, t1, t2, _, _⟩ := elem1 (HW.out.below hB) hlt
      have HRS := Lib.hid (run_snoc (a := List.replicate n 0) hv)
      generalize run (List.replicate n 0) (z1.take k) = a at hL hR hsy hal HRS
      have HRS2 := Lib.hid (show run (List.replicate n 0) (z1.take (k + 1)) = Sc.step a x0 x1 x2 from HRS.out)
      have hcb := Blk.new wr 34 #[.int .i64 x0, .int .i64 x1, .bool x2]
      have hLa : Ln (wr.alloc (.cells #[.int .i64 x0, .int .i64 x1, .bool x2] 34)).drew p g a := (hL.below ((Below.refl _ wr).alloc (Nat.le_refl _) _)).drew_
      have hRa : Re (wr.alloc (.cells #[.int .i64 x0, .int .i64 x1, .bool x2] 34)).drew m a := (Cs.alloc hR _).drew
      have hBa : Below W.heap.size W (wr.alloc (.cells #[.int .i64 x0, .int .i64 x1, .bool x2] 34)).drew := (hB.alloc hB.size _).drew
      have hms := Cs.lt hR
      have CS := Lib.hid (set_any p g a x0 x1 x2 _ hLa)
      have CR := Lib.hid (fun w' (hk : Kp (fun b => b = g) (wr.alloc (.cells #[.int .i64 x0, .int .i64 x1, .bool x2] 34)).drew w') => rset_ok m a hsy.small (by omega) x0 x1 x2 w' (Cs.kp hRa hk (by omega)))
      have CM := Lib.hid (fun w' (hl : Ln w' p g (Sc.step a x0 x1 x2)) => may_any (some ⟨p, 0, none⟩) (Sc.step a x0 x1 x2) x0 x1 w' (.inr ⟨p, g, rfl, hl⟩))
      have CM2 := Lib.hid (fun w' hl => show Calls Tryd.prog 21 #[.pointer (some ⟨p, 0, none⟩), .int .i64 x0, .int .i64 x1] w' fun e w'' => e = .returned (.bool (mayb a x0 x1)) ∧ w' = w'' by rw [← mayb_step a x0 x1 x0 x1 x2]; exact CM.out w' hl)
      have hst := has_step hsy (by omega) x0 x1 x2
      have C1 := Lib.hid (fun w' (hl : Ln w' p g (Sc.step a x0 x1 x2)) => show Calls Tryd.prog 16 #[.pointer (some ⟨p, 0, none⟩), .int .i64 x0, .int .i64 x1] w' fun e w'' => e = .returned (.bool (mayb a x0 x1 && x2)) ∧ w' = w'' by rw [← hst.1]; exact has_any _ _ x0 x1 w' (.inr ⟨p, g, rfl, hl⟩) (by rw [step_length]; omega))
      have C2 := Lib.hid (fun w' (hl : Ln w' p g (Sc.step a x0 x1 x2)) => show Calls Tryd.prog 16 #[.pointer (some ⟨p, 0, none⟩), .int .i64 x1, .int .i64 x0] w' fun e w'' => e = .returned (.bool (mayb a x0 x1 && x2)) ∧ w' = w'' by rw [← hst.2]; exact has_any _ _ x1 x0 w' (.inr ⟨p, g, rfl, hl⟩) (by rw [step_length]; omega))
      have HBa := Lib.hid hBa
      have HCB := Lib.hid hcb.drew
      have s0 := hcb.cell 0
      have s1 := hcb.cell 1
      have s2 := hcb.cell 2
      have hlt2 : wr.heap.size < (wr.alloc (.cells #[.int .i64 x0, .int .i64 x1, .bool x2] 34)).drew.heap.size := by simp
      clear hL hR hB hv hst CM HRS hLa hRa hBa hcb
      have hmd : mayb a x0 x1 = (decide (0 ≤ x0) && decide (x0 < (n : Int)) && (decide (0 ≤ x1) && decide (x1 < (n : Int))) && !(x0 == x1)) := by unfold mayb isn; rw [hal]
      by_cases g1 : 0 ≤ x0
      · have d1 : decide (0 ≤ x0) = true := by simpa using g1
        by_cases g2 : 0 ≤ x1
        · have d2 : decide (0 ≤ x1) = true := by simpa using g2
          by_cases g3 : x0 < (n : Int)
          · have d3 : decide (x0 < (n : Int)) = true := by simpa using g3
            by_cases g4 : x1 < (n : Int)
            · have d4 : decide (x1 < (n : Int)) = true := by simpa using g4
              by_cases g5 : x0 = x1
              · have hmf : mayb a x0 x1 = false := by rw [hmd, g5]; simp
                subst g5
                have q5 : (x0 == x0) = true := by simp
                have q6 : (x0 != x0) = false := by simp
                as_aux_lemma =>
                  clear hmd
                  rw [hmf] at CS CR CM2 C1 C2
                  simp only [if_true, Bool.false_eq_true, if_false, Bool.true_and, Bool.false_and] at CS CR C1 C2
                  clear hmf
                  go_wp2
                  refine wp_region_seq [(0, true), (1, true), (2, true), (3, true), (4, true), (5, true), (6, true), (8, true), (9, true), (10, true), (11, true), (12, true), (13, true), (14, true), (7, false), (15, false), (16, true), (17, true), (18, true), (19, true), (20, true), (21, true), (22, true), (24, true), (25, true), (26, true), (23, false), (27, true), (28, true), (29, true), (30, true), (31, true), (32, true), (33, true), (34, true), (35, true), (36, true), (37, true), (38, true), (39, true), (40, true), (41, true), (42, true), (43, true), (44, true), (45, true), (46, true), (47, true), (48, true), (49, true), (50, true), (51, true), (52, true)] (fun w' => w'.cell? ⟨wr.heap.size, 0, none⟩ = some (.int .i64 x0) ∧ w'.cell? ⟨wr.heap.size, 1, none⟩ = some (.int .i64 x0) ∧ w'.cell? ⟨wr.heap.size, 2, none⟩ = some (.bool x2)) (by kernel_rfl) (by kernel_rfl) ⟨s0, s1, s2⟩ (fun hHeld => ?_)
                  simp only [List.map_cons, List.map_nil, List.getElem?_toArray, List.getElem?_cons_zero, List.getElem?_cons_succ]
                  repeat (first | (refine seq_skip (by rfl) ?_; try simp only [Act.put, List.setIfInBounds_toArray, List.set_cons_zero, List.set_cons_succ]) | (refine seq_not (by rfl) (by assumption) ?_; try simp only [Act.put, List.setIfInBounds_toArray, List.set_cons_zero, List.set_cons_succ]) | (refine seq_take (v := ?_) (by rfl) ?_ ?_; rotate_left; (focus ((intro w hSw; (try dsimp only at hSw); go_simp; (try with_reducible rfl)); done)); try simp only [Act.put, List.setIfInBounds_toArray, List.set_cons_zero, List.set_cons_succ]))
                  refine seq_do (fun K hK => ?_)
                  go_simp
                  go_at_call 14
                  (with_reducible refine Calls.mono CS.out ?_)
                  rintro e w5 ⟨rfl, hL5, hk5⟩
                  dsimp only
                  clear hHeld s0 s1 s2
                  have hc5 := blk_kp HCB.out hk5 (by omega)
                  have HB5 := Lib.hid (below_kp HBa.out HBa.out.size hk5 (fun b hb => by omega))
                  have HCR := Lib.hid (CR.out w5 hk5)
                  have HCB5 := Lib.hid hc5
                  have HL5 := Lib.hid hL5
                  refine hK.out _ _ ⟨hc5.cell 0, hc5.cell 1, hc5.cell 2⟩ (fun hHeld => ?_)
                  clear hK K hL5 hk5 hc5 CR CS HBa HCB
                  repeat (first | (refine seq_skip (by rfl) ?_; try simp only [Act.put, List.setIfInBounds_toArray, List.set_cons_zero, List.set_cons_succ]) | (refine seq_not (by rfl) (by assumption) ?_; try simp only [Act.put, List.setIfInBounds_toArray, List.set_cons_zero, List.set_cons_succ]) | (refine seq_take (v := ?_) (by rfl) ?_ ?_; rotate_left; (focus ((intro w hSw; (try dsimp only at hSw); go_simp; (try with_reducible rfl)); done)); try simp only [Act.put, List.setIfInBounds_toArray, List.set_cons_zero, List.set_cons_succ]))
                  refine seq_do (fun K hK => ?_)
                  go_simp
                  go_at_call 17
                  (with_reducible refine Calls.mono HCR.out ?_)
                  rintro e w6 ⟨rfl, hR6, hk6⟩
                  dsimp only
                  clear hHeld
                  have hc6 := blk_kp HCB5.out hk6 (by omega)
                  have HB6 := Lib.hid (below_kp HB5.out HB5.out.size hk6 (fun b hb => by omega))
                  have HL6 := Lib.hid (HL5.out.kp hk6 (by omega) (by omega))
                  have HCB6 := Lib.hid hc6
                  have HR6 := Lib.hid hR6
                  refine hK.out _ _ ⟨hc6.cell 0, hc6.cell 1, hc6.cell 2⟩ (fun hHeld => ?_)
                  clear hK K hR6 hk6 hc6 HCR HB5 HL5 HCB5
                  repeat (first | (refine seq_skip (by rfl) ?_; try simp only [Act.put, List.setIfInBounds_toArray, List.set_cons_zero, List.set_cons_succ]) | (refine seq_not (by rfl) (by assumption) ?_; try simp only [Act.put, List.setIfInBounds_toArray, List.set_cons_zero, List.set_cons_succ]) | (refine seq_take (v := ?_) (by rfl) ?_ ?_; rotate_left; (focus ((intro w hSw; (try dsimp only at hSw); go_simp; (try with_reducible rfl)); done)); try simp only [Act.put, List.setIfInBounds_toArray, List.set_cons_zero, List.set_cons_succ]))
                  refine seq_do (fun K hK => ?_)
                  go_simp
                  go_at_call 21
                  (with_reducible refine Calls.mono (CM2.out _ HL6.out) ?_)
                  rintro e w7 ⟨rfl, rfl⟩
                  dsimp only
                  refine hK.out _ _ hHeld (fun _ => ?_)
                  clear hK K
                  repeat (first | (refine seq_skip (by rfl) ?_; try simp only [Act.put, List.setIfInBounds_toArray, List.set_cons_zero, List.set_cons_succ]) | (refine seq_not (by rfl) (by assumption) ?_; try simp only [Act.put, List.setIfInBounds_toArray, List.set_cons_zero, List.set_cons_succ]) | (refine seq_take (v := ?_) (by rfl) ?_ ?_; rotate_left; (focus ((intro w hSw; (try dsimp only at hSw); go_simp; (try with_reducible rfl)); done)); try simp only [Act.put, List.setIfInBounds_toArray, List.set_cons_zero, List.set_cons_succ]))
                  refine seq_done ?_
                  obtain ⟨s0, s1, s2⟩ := hHeld
                  have s0 : w6.drew.cell? ⟨wr.heap.size, 0, none⟩ = some (.int .i64 x0) := s0
                  have s1 : w6.drew.cell? ⟨wr.heap.size, 1, none⟩ = some (.int .i64 x0) := s1
                  have s2 : w6.drew.cell? ⟨wr.heap.size, 2, none⟩ = some (.bool x2) := s2
                  go_wp2
                  refine wp_region_seq [(0, true), (1, true), (2, true), (3, true), (4, true), (6, true), (7, true), (8, true), (9, true), (10, true), (5, false), (11, false), (12, true), (13, true), (14, true), (15, true), (16, true), (17, true), (18, true), (19, true), (20, true), (21, true), (22, true), (24, true), (25, true), (26, true), (27, true), (28, true), (23, false), (29, false), (30, true), (31, true)] (fun w' => w'.cell? ⟨wr.heap.size, 0, none⟩ = some (.int .i64 x0) ∧ w'.cell? ⟨wr.heap.size, 1, none⟩ = some (.int .i64 x0) ∧ w'.cell? ⟨wr.heap.size, 2, none⟩ = some (.bool x2)) (by kernel_rfl) (by kernel_rfl) ⟨s0, s1, s2⟩ (fun hHeld => ?_)
                  clear s0 s1 s2
                  simp only [List.map_cons, List.map_nil, List.getElem?_toArray, List.getElem?_cons_zero, List.getElem?_cons_succ]
                  repeat (first
                    | (first | (refine seq_skip (by rfl) ?_; try simp only [Act.put, List.setIfInBounds_toArray, List.set_cons_zero, List.set_cons_succ]) | (refine seq_not (by rfl) (by assumption) ?_; try simp only [Act.put, List.setIfInBounds_toArray, List.set_cons_zero, List.set_cons_succ]) | (refine seq_take (v := ?_) (by rfl) ?_ ?_; rotate_left; (focus ((intro w hSw; (try dsimp only at hSw); go_simp; (try with_reducible rfl)); done)); try simp only [Act.put, List.setIfInBounds_toArray, List.set_cons_zero, List.set_cons_succ]))
                    | (refine seq_do (fun K hK => ?_); go_simp; (first | (go_at_call 16; (with_reducible refine Calls.mono (C1.out _ HL6.out.drew_) ?_)) | (go_at_call 16; (with_reducible refine Calls.mono (C2.out _ HL6.out.drew_) ?_)) | (go_at_call 21; (with_reducible refine Calls.mono (CM2.out _ HL6.out.drew_) ?_))); rintro e w7 ⟨rfl, rfl⟩; dsimp only; refine hK.out _ _ hHeld (fun _ => ?_); clear hK K))
                  refine seq_done ?_
                  clear hHeld
                  go_wp2
                  go_roundw
                  case rel => exact ⟨k + 1, by omega, by go_num, by rw [HRS2.out]; exact HL6.out.drew_, by rw [HRS2.out]; exact Cs.drew HR6.out, HB6.out.drew⟩
                  case measure => simp [intOf]; omega
              · have hmf : mayb a x0 x1 = true := by rw [hmd]; simp [g1, g2, g3, g4, g5]
                have q5 : (x0 == x1) = false := by simpa using g5
                have q6 : (x0 != x1) = true := by simpa using g5
                cases x2 with
                | false =>
                  as_aux_lemma =>
                    clear hmd
                    rw [hmf] at CS CR CM2 C1 C2
                    simp only [if_true, Bool.false_eq_true, if_false, Bool.true_and, Bool.false_and] at CS CR C1 C2
                    clear hmf
                    go_wp2
                    refine wp_region_seq [(0, true), (1, true), (2, true), (3, true), (4, true), (5, true), (6, true), (8, true), (9, true), (10, true), (11, true), (12, true), (13, true), (14, true), (7, false), (15, false), (16, true), (17, true), (18, true), (19, true), (20, true), (21, true), (22, true), (24, true), (25, true), (26, true), (23, false), (27, true), (28, true), (29, true), (30, true), (31, true), (32, true), (33, true), (34, true), (35, true), (36, true), (37, true), (38, true), (39, true), (40, true), (41, true), (42, true), (43, true), (44, true), (45, true), (46, true), (47, true), (48, true), (49, true), (50, true), (51, true), (52, true)] (fun w' => w'.cell? ⟨wr.heap.size, 0, none⟩ = some (.int .i64 x0) ∧ w'.cell? ⟨wr.heap.size, 1, none⟩ = some (.int .i64 x1) ∧ w'.cell? ⟨wr.heap.size, 2, none⟩ = some (.bool false)) (by kernel_rfl) (by kernel_rfl) ⟨s0, s1, s2⟩ (fun hHeld => ?_)
                    simp only [List.map_cons, List.map_nil, List.getElem?_toArray, List.getElem?_cons_zero, List.getElem?_cons_succ]
                    repeat (first | (refine seq_skip (by rfl) ?_; try simp only [Act.put, List.setIfInBounds_toArray, List.set_cons_zero, List.set_cons_succ]) | (refine seq_not (by rfl) (by assumption) ?_; try simp only [Act.put, List.setIfInBounds_toArray, List.set_cons_zero, List.set_cons_succ]) | (refine seq_take (v := ?_) (by rfl) ?_ ?_; rotate_left; (focus ((intro w hSw; (try dsimp only at hSw); go_simp; (try with_reducible rfl)); done)); try simp only [Act.put, List.setIfInBounds_toArray, List.set_cons_zero, List.set_cons_succ]))
                    refine seq_do (fun K hK => ?_)
                    go_simp
                    go_at_call 14
                    (with_reducible refine Calls.mono CS.out ?_)
                    rintro e w5 ⟨rfl, hL5, hk5⟩
                    dsimp only
                    clear hHeld s0 s1 s2
                    have hc5 := blk_kp HCB.out hk5 (by omega)
                    have HB5 := Lib.hid (below_kp HBa.out HBa.out.size hk5 (fun b hb => by omega))
                    have HCR := Lib.hid (CR.out w5 hk5)
                    have HCB5 := Lib.hid hc5
                    have HL5 := Lib.hid hL5
                    refine hK.out _ _ ⟨hc5.cell 0, hc5.cell 1, hc5.cell 2⟩ (fun hHeld => ?_)
                    clear hK K hL5 hk5 hc5 CR CS HBa HCB
                    repeat (first | (refine seq_skip (by rfl) ?_; try simp only [Act.put, List.setIfInBounds_toArray, List.set_cons_zero, List.set_cons_succ]) | (refine seq_not (by rfl) (by assumption) ?_; try simp only [Act.put, List.setIfInBounds_toArray, List.set_cons_zero, List.set_cons_succ]) | (refine seq_take (v := ?_) (by rfl) ?_ ?_; rotate_left; (focus ((intro w hSw; (try dsimp only at hSw); go_simp; (try with_reducible rfl)); done)); try simp only [Act.put, List.setIfInBounds_toArray, List.set_cons_zero, List.set_cons_succ]))
                    refine seq_do (fun K hK => ?_)
                    go_simp
                    go_at_call 17
                    (with_reducible refine Calls.mono HCR.out ?_)
                    rintro e w6 ⟨rfl, hR6, hk6⟩
                    dsimp only
                    clear hHeld
                    have hc6 := blk_kp HCB5.out hk6 (by omega)
                    have HB6 := Lib.hid (below_kp HB5.out HB5.out.size hk6 (fun b hb => by omega))
                    have HL6 := Lib.hid (HL5.out.kp hk6 (by omega) (by omega))
                    have HCB6 := Lib.hid hc6
                    have HR6 := Lib.hid hR6
                    refine hK.out _ _ ⟨hc6.cell 0, hc6.cell 1, hc6.cell 2⟩ (fun hHeld => ?_)
                    clear hK K hR6 hk6 hc6 HCR HB5 HL5 HCB5
                    repeat (first | (refine seq_skip (by rfl) ?_; try simp only [Act.put, List.setIfInBounds_toArray, List.set_cons_zero, List.set_cons_succ]) | (refine seq_not (by rfl) (by assumption) ?_; try simp only [Act.put, List.setIfInBounds_toArray, List.set_cons_zero, List.set_cons_succ]) | (refine seq_take (v := ?_) (by rfl) ?_ ?_; rotate_left; (focus ((intro w hSw; (try dsimp only at hSw); go_simp; (try with_reducible rfl)); done)); try simp only [Act.put, List.setIfInBounds_toArray, List.set_cons_zero, List.set_cons_succ]))
                    refine seq_do (fun K hK => ?_)
                    go_simp
                    go_at_call 21
                    (with_reducible refine Calls.mono (CM2.out _ HL6.out) ?_)
                    rintro e w7 ⟨rfl, rfl⟩
                    dsimp only
                    refine hK.out _ _ hHeld (fun _ => ?_)
                    clear hK K
                    repeat (first | (refine seq_skip (by rfl) ?_; try simp only [Act.put, List.setIfInBounds_toArray, List.set_cons_zero, List.set_cons_succ]) | (refine seq_not (by rfl) (by assumption) ?_; try simp only [Act.put, List.setIfInBounds_toArray, List.set_cons_zero, List.set_cons_succ]) | (refine seq_take (v := ?_) (by rfl) ?_ ?_; rotate_left; (focus ((intro w hSw; (try dsimp only at hSw); go_simp; (try with_reducible rfl)); done)); try simp only [Act.put, List.setIfInBounds_toArray, List.set_cons_zero, List.set_cons_succ]))
                    refine seq_done ?_
                    obtain ⟨s0, s1, s2⟩ := hHeld
                    have s0 : w6.drew.cell? ⟨wr.heap.size, 0, none⟩ = some (.int .i64 x0) := s0
                    have s1 : w6.drew.cell? ⟨wr.heap.size, 1, none⟩ = some (.int .i64 x1) := s1
                    have s2 : w6.drew.cell? ⟨wr.heap.size, 2, none⟩ = some (.bool false) := s2
                    go_wp2
                    refine wp_region_seq [(0, true), (1, true), (2, true), (3, true), (4, true), (6, true), (7, true), (8, true), (9, true), (10, true), (5, false), (11, false), (12, true), (13, true), (14, true), (15, true), (16, true), (17, true), (18, true), (19, true), (20, true), (21, true), (22, true), (24, true), (25, true), (26, true), (27, true), (28, true), (23, false), (29, false), (30, true), (31, true)] (fun w' => w'.cell? ⟨wr.heap.size, 0, none⟩ = some (.int .i64 x0) ∧ w'.cell? ⟨wr.heap.size, 1, none⟩ = some (.int .i64 x1) ∧ w'.cell? ⟨wr.heap.size, 2, none⟩ = some (.bool false)) (by kernel_rfl) (by kernel_rfl) ⟨s0, s1, s2⟩ (fun hHeld => ?_)
                    clear s0 s1 s2
                    simp only [List.map_cons, List.map_nil, List.getElem?_toArray, List.getElem?_cons_zero, List.getElem?_cons_succ]
                    repeat (first
                      | (first | (refine seq_skip (by rfl) ?_; try simp only [Act.put, List.setIfInBounds_toArray, List.set_cons_zero, List.set_cons_succ]) | (refine seq_not (by rfl) (by assumption) ?_; try simp only [Act.put, List.setIfInBounds_toArray, List.set_cons_zero, List.set_cons_succ]) | (refine seq_take (v := ?_) (by rfl) ?_ ?_; rotate_left; (focus ((intro w hSw; (try dsimp only at hSw); go_simp; (try with_reducible rfl)); done)); try simp only [Act.put, List.setIfInBounds_toArray, List.set_cons_zero, List.set_cons_succ]))
                      | (refine seq_do (fun K hK => ?_); go_simp; (first | (go_at_call 16; (with_reducible refine Calls.mono (C1.out _ HL6.out.drew_) ?_)) | (go_at_call 16; (with_reducible refine Calls.mono (C2.out _ HL6.out.drew_) ?_)) | (go_at_call 21; (with_reducible refine Calls.mono (CM2.out _ HL6.out.drew_) ?_))); rintro e w7 ⟨rfl, rfl⟩; dsimp only; refine hK.out _ _ hHeld (fun _ => ?_); clear hK K))
                    refine seq_done ?_
                    clear hHeld
                    go_wp2
                    go_roundw
                    case rel => exact ⟨k + 1, by omega, by go_num, by rw [HRS2.out]; exact HL6.out.drew_, by rw [HRS2.out]; exact Cs.drew HR6.out, HB6.out.drew⟩
                    case measure => simp [intOf]; omega
                | true =>
                  as_aux_lemma =>
                    clear hmd
                    rw [hmf] at CS CR CM2 C1 C2
                    simp only [if_true, Bool.false_eq_true, if_false, Bool.true_and, Bool.false_and] at CS CR C1 C2
                    clear hmf
                    go_wp2
                    refine wp_region_seq [(0, true), (1, true), (2, true), (3, true), (4, true), (5, true), (6, true), (8, true), (9, true), (10, true), (11, true), (12, true), (13, true), (14, true), (7, false), (15, false), (16, true), (17, true), (18, true), (19, true), (20, true), (21, true), (22, true), (24, true), (25, true), (26, true), (23, false), (27, true), (28, true), (29, true), (30, true), (31, true), (32, true), (33, true), (34, true), (35, true), (36, true), (37, true), (38, true), (39, true), (40, true), (41, true), (42, true), (43, true), (44, true), (45, true), (46, true), (47, true), (48, true), (49, true), (50, true), (51, true), (52, true)] (fun w' => w'.cell? ⟨wr.heap.size, 0, none⟩ = some (.int .i64 x0) ∧ w'.cell? ⟨wr.heap.size, 1, none⟩ = some (.int .i64 x1) ∧ w'.cell? ⟨wr.heap.size, 2, none⟩ = some (.bool true)) (by kernel_rfl) (by kernel_rfl) ⟨s0, s1, s2⟩ (fun hHeld => ?_)
                    simp only [List.map_cons, List.map_nil, List.getElem?_toArray, List.getElem?_cons_zero, List.getElem?_cons_succ]
                    repeat (first | (refine seq_skip (by rfl) ?_; try simp only [Act.put, List.setIfInBounds_toArray, List.set_cons_zero, List.set_cons_succ]) | (refine seq_not (by rfl) (by assumption) ?_; try simp only [Act.put, List.setIfInBounds_toArray, List.set_cons_zero, List.set_cons_succ]) | (refine seq_take (v := ?_) (by rfl) ?_ ?_; rotate_left; (focus ((intro w hSw; (try dsimp only at hSw); go_simp; (try with_reducible rfl)); done)); try simp only [Act.put, List.setIfInBounds_toArray, List.set_cons_zero, List.set_cons_succ]))
                    refine seq_do (fun K hK => ?_)
                    go_simp
                    go_at_call 14
                    (with_reducible refine Calls.mono CS.out ?_)
                    rintro e w5 ⟨rfl, hL5, hk5⟩
                    dsimp only
                    clear hHeld s0 s1 s2
                    have hc5 := blk_kp HCB.out hk5 (by omega)
                    have HB5 := Lib.hid (below_kp HBa.out HBa.out.size hk5 (fun b hb => by omega))
                    have HCR := Lib.hid (CR.out w5 hk5)
                    have HCB5 := Lib.hid hc5
                    have HL5 := Lib.hid hL5
                    refine hK.out _ _ ⟨hc5.cell 0, hc5.cell 1, hc5.cell 2⟩ (fun hHeld => ?_)
                    clear hK K hL5 hk5 hc5 CR CS HBa HCB
                    repeat (first | (refine seq_skip (by rfl) ?_; try simp only [Act.put, List.setIfInBounds_toArray, List.set_cons_zero, List.set_cons_succ]) | (refine seq_not (by rfl) (by assumption) ?_; try simp only [Act.put, List.setIfInBounds_toArray, List.set_cons_zero, List.set_cons_succ]) | (refine seq_take (v := ?_) (by rfl) ?_ ?_; rotate_left; (focus ((intro w hSw; (try dsimp only at hSw); go_simp; (try with_reducible rfl)); done)); try simp only [Act.put, List.setIfInBounds_toArray, List.set_cons_zero, List.set_cons_succ]))
                    refine seq_do (fun K hK => ?_)
                    go_simp
                    go_at_call 17
                    (with_reducible refine Calls.mono HCR.out ?_)
                    rintro e w6 ⟨rfl, hR6, hk6⟩
                    dsimp only
                    clear hHeld
                    have hc6 := blk_kp HCB5.out hk6 (by omega)
                    have HB6 := Lib.hid (below_kp HB5.out HB5.out.size hk6 (fun b hb => by omega))
                    have HL6 := Lib.hid (HL5.out.kp hk6 (by omega) (by omega))
                    have HCB6 := Lib.hid hc6
                    have HR6 := Lib.hid hR6
                    refine hK.out _ _ ⟨hc6.cell 0, hc6.cell 1, hc6.cell 2⟩ (fun hHeld => ?_)
                    clear hK K hR6 hk6 hc6 HCR HB5 HL5 HCB5
                    repeat (first | (refine seq_skip (by rfl) ?_; try simp only [Act.put, List.setIfInBounds_toArray, List.set_cons_zero, List.set_cons_succ]) | (refine seq_not (by rfl) (by assumption) ?_; try simp only [Act.put, List.setIfInBounds_toArray, List.set_cons_zero, List.set_cons_succ]) | (refine seq_take (v := ?_) (by rfl) ?_ ?_; rotate_left; (focus ((intro w hSw; (try dsimp only at hSw); go_simp; (try with_reducible rfl)); done)); try simp only [Act.put, List.setIfInBounds_toArray, List.set_cons_zero, List.set_cons_succ]))
                    refine seq_do (fun K hK => ?_)
                    go_simp
                    go_at_call 21
                    (with_reducible refine Calls.mono (CM2.out _ HL6.out) ?_)
                    rintro e w7 ⟨rfl, rfl⟩
                    dsimp only
                    refine hK.out _ _ hHeld (fun _ => ?_)
                    clear hK K
                    repeat (first | (refine seq_skip (by rfl) ?_; try simp only [Act.put, List.setIfInBounds_toArray, List.set_cons_zero, List.set_cons_succ]) | (refine seq_not (by rfl) (by assumption) ?_; try simp only [Act.put, List.setIfInBounds_toArray, List.set_cons_zero, List.set_cons_succ]) | (refine seq_take (v := ?_) (by rfl) ?_ ?_; rotate_left; (focus ((intro w hSw; (try dsimp only at hSw); go_simp; (try with_reducible rfl)); done)); try simp only [Act.put, List.setIfInBounds_toArray, List.set_cons_zero, List.set_cons_succ]))
                    refine seq_done ?_
                    obtain ⟨s0, s1, s2⟩ := hHeld
                    have s0 : w6.drew.cell? ⟨wr.heap.size, 0, none⟩ = some (.int .i64 x0) := s0
                    have s1 : w6.drew.cell? ⟨wr.heap.size, 1, none⟩ = some (.int .i64 x1) := s1
                    have s2 : w6.drew.cell? ⟨wr.heap.size, 2, none⟩ = some (.bool true) := s2
                    go_wp2
                    refine wp_region_seq [(0, true), (1, true), (2, true), (3, true), (4, true), (6, true), (7, true), (8, true), (9, true), (10, true), (5, false), (11, false), (12, true), (13, true), (14, true), (15, true), (16, true), (17, true), (18, true), (19, true), (20, true), (21, true), (22, true), (24, true), (25, true), (26, true), (27, true), (28, true), (23, false), (29, false), (30, true), (31, true)] (fun w' => w'.cell? ⟨wr.heap.size, 0, none⟩ = some (.int .i64 x0) ∧ w'.cell? ⟨wr.heap.size, 1, none⟩ = some (.int .i64 x1) ∧ w'.cell? ⟨wr.heap.size, 2, none⟩ = some (.bool true)) (by kernel_rfl) (by kernel_rfl) ⟨s0, s1, s2⟩ (fun hHeld => ?_)
                    clear s0 s1 s2
                    simp only [List.map_cons, List.map_nil, List.getElem?_toArray, List.getElem?_cons_zero, List.getElem?_cons_succ]
                    repeat (first
                      | (first | (refine seq_skip (by rfl) ?_; try simp only [Act.put, List.setIfInBounds_toArray, List.set_cons_zero, List.set_cons_succ]) | (refine seq_not (by rfl) (by assumption) ?_; try simp only [Act.put, List.setIfInBounds_toArray, List.set_cons_zero, List.set_cons_succ]) | (refine seq_take (v := ?_) (by rfl) ?_ ?_; rotate_left; (focus ((intro w hSw; (try dsimp only at hSw); go_simp; (try with_reducible rfl)); done)); try simp only [Act.put, List.setIfInBounds_toArray, List.set_cons_zero, List.set_cons_succ]))
                      | (refine seq_do (fun K hK => ?_); go_simp; (first | (go_at_call 16; (with_reducible refine Calls.mono (C1.out _ HL6.out.drew_) ?_)) | (go_at_call 16; (with_reducible refine Calls.mono (C2.out _ HL6.out.drew_) ?_)) | (go_at_call 21; (with_reducible refine Calls.mono (CM2.out _ HL6.out.drew_) ?_))); rintro e w7 ⟨rfl, rfl⟩; dsimp only; refine hK.out _ _ hHeld (fun _ => ?_); clear hK K))
                    refine seq_done ?_
                    clear hHeld
                    go_wp2
                    go_roundw
                    case rel => exact ⟨k + 1, by omega, by go_num, by rw [HRS2.out]; exact HL6.out.drew_, by rw [HRS2.out]; exact Cs.drew HR6.out, HB6.out.drew⟩
                    case measure => simp [intOf]; omega
            · have hmf : mayb a x0 x1 = false := by rw [hmd]; simp [g4]
              have d4 : decide (x1 < (n : Int)) = false := by simpa using g4
              as_aux_lemma =>
                clear hmd
                rw [hmf] at CS CR CM2 C1 C2
                simp only [if_true, Bool.false_eq_true, if_false, Bool.true_and, Bool.false_and] at CS CR C1 C2
                clear hmf
                go_wp2
                refine wp_region_seq [(0, true), (1, true), (2, true), (3, true), (4, true), (5, true), (6, true), (8, true), (9, true), (10, true), (11, true), (12, true), (13, true), (14, true), (7, false), (15, false), (16, true), (17, true), (18, true), (19, true), (20, true), (21, true), (22, true), (24, true), (25, true), (26, true), (23, false), (27, true), (28, true), (29, true), (30, true), (31, true), (32, true), (33, true), (34, true), (35, true), (36, true), (37, true), (38, true), (39, true), (40, true), (41, true), (42, true), (43, true), (44, true), (45, true), (46, true), (47, true), (48, true), (49, true), (50, true), (51, true), (52, true)] (fun w' => w'.cell? ⟨wr.heap.size, 0, none⟩ = some (.int .i64 x0) ∧ w'.cell? ⟨wr.heap.size, 1, none⟩ = some (.int .i64 x1) ∧ w'.cell? ⟨wr.heap.size, 2, none⟩ = some (.bool x2)) (by kernel_rfl) (by kernel_rfl) ⟨s0, s1, s2⟩ (fun hHeld => ?_)
                simp only [List.map_cons, List.map_nil, List.getElem?_toArray, List.getElem?_cons_zero, List.getElem?_cons_succ]
                repeat (first | (refine seq_skip (by rfl) ?_; try simp only [Act.put, List.setIfInBounds_toArray, List.set_cons_zero, List.set_cons_succ]) | (refine seq_not (by rfl) (by assumption) ?_; try simp only [Act.put, List.setIfInBounds_toArray, List.set_cons_zero, List.set_cons_succ]) | (refine seq_take (v := ?_) (by rfl) ?_ ?_; rotate_left; (focus ((intro w hSw; (try dsimp only at hSw); go_simp; (try with_reducible rfl)); done)); try simp only [Act.put, List.setIfInBounds_toArray, List.set_cons_zero, List.set_cons_succ]))
                refine seq_do (fun K hK => ?_)
                go_simp
                go_at_call 14
                (with_reducible refine Calls.mono CS.out ?_)
                rintro e w5 ⟨rfl, hL5, hk5⟩
                dsimp only
                clear hHeld s0 s1 s2
                have hc5 := blk_kp HCB.out hk5 (by omega)
                have HB5 := Lib.hid (below_kp HBa.out HBa.out.size hk5 (fun b hb => by omega))
                have HCR := Lib.hid (CR.out w5 hk5)
                have HCB5 := Lib.hid hc5
                have HL5 := Lib.hid hL5
                refine hK.out _ _ ⟨hc5.cell 0, hc5.cell 1, hc5.cell 2⟩ (fun hHeld => ?_)
                clear hK K hL5 hk5 hc5 CR CS HBa HCB
                repeat (first | (refine seq_skip (by rfl) ?_; try simp only [Act.put, List.setIfInBounds_toArray, List.set_cons_zero, List.set_cons_succ]) | (refine seq_not (by rfl) (by assumption) ?_; try simp only [Act.put, List.setIfInBounds_toArray, List.set_cons_zero, List.set_cons_succ]) | (refine seq_take (v := ?_) (by rfl) ?_ ?_; rotate_left; (focus ((intro w hSw; (try dsimp only at hSw); go_simp; (try with_reducible rfl)); done)); try simp only [Act.put, List.setIfInBounds_toArray, List.set_cons_zero, List.set_cons_succ]))
                refine seq_do (fun K hK => ?_)
                go_simp
                go_at_call 17
                (with_reducible refine Calls.mono HCR.out ?_)
                rintro e w6 ⟨rfl, hR6, hk6⟩
                dsimp only
                clear hHeld
                have hc6 := blk_kp HCB5.out hk6 (by omega)
                have HB6 := Lib.hid (below_kp HB5.out HB5.out.size hk6 (fun b hb => by omega))
                have HL6 := Lib.hid (HL5.out.kp hk6 (by omega) (by omega))
                have HCB6 := Lib.hid hc6
                have HR6 := Lib.hid hR6
                refine hK.out _ _ ⟨hc6.cell 0, hc6.cell 1, hc6.cell 2⟩ (fun hHeld => ?_)
                clear hK K hR6 hk6 hc6 HCR HB5 HL5 HCB5
                repeat (first | (refine seq_skip (by rfl) ?_; try simp only [Act.put, List.setIfInBounds_toArray, List.set_cons_zero, List.set_cons_succ]) | (refine seq_not (by rfl) (by assumption) ?_; try simp only [Act.put, List.setIfInBounds_toArray, List.set_cons_zero, List.set_cons_succ]) | (refine seq_take (v := ?_) (by rfl) ?_ ?_; rotate_left; (focus ((intro w hSw; (try dsimp only at hSw); go_simp; (try with_reducible rfl)); done)); try simp only [Act.put, List.setIfInBounds_toArray, List.set_cons_zero, List.set_cons_succ]))
                refine seq_do (fun K hK => ?_)
                go_simp
                go_at_call 21
                (with_reducible refine Calls.mono (CM2.out _ HL6.out) ?_)
                rintro e w7 ⟨rfl, rfl⟩
                dsimp only
                refine hK.out _ _ hHeld (fun _ => ?_)
                clear hK K
                repeat (first | (refine seq_skip (by rfl) ?_; try simp only [Act.put, List.setIfInBounds_toArray, List.set_cons_zero, List.set_cons_succ]) | (refine seq_not (by rfl) (by assumption) ?_; try simp only [Act.put, List.setIfInBounds_toArray, List.set_cons_zero, List.set_cons_succ]) | (refine seq_take (v := ?_) (by rfl) ?_ ?_; rotate_left; (focus ((intro w hSw; (try dsimp only at hSw); go_simp; (try with_reducible rfl)); done)); try simp only [Act.put, List.setIfInBounds_toArray, List.set_cons_zero, List.set_cons_succ]))
                refine seq_done ?_
                obtain ⟨s0, s1, s2⟩ := hHeld
                have s0 : w6.drew.cell? ⟨wr.heap.size, 0, none⟩ = some (.int .i64 x0) := s0
                have s1 : w6.drew.cell? ⟨wr.heap.size, 1, none⟩ = some (.int .i64 x1) := s1
                have s2 : w6.drew.cell? ⟨wr.heap.size, 2, none⟩ = some (.bool x2) := s2
                go_wp2
                refine wp_region_seq [(0, true), (1, true), (2, true), (3, true), (4, true), (6, true), (7, true), (8, true), (9, true), (10, true), (5, false), (11, false), (12, true), (13, true), (14, true), (15, true), (16, true), (17, true), (18, true), (19, true), (20, true), (21, true), (22, true), (24, true), (25, true), (26, true), (27, true), (28, true), (23, false), (29, false), (30, true), (31, true)] (fun w' => w'.cell? ⟨wr.heap.size, 0, none⟩ = some (.int .i64 x0) ∧ w'.cell? ⟨wr.heap.size, 1, none⟩ = some (.int .i64 x1) ∧ w'.cell? ⟨wr.heap.size, 2, none⟩ = some (.bool x2)) (by kernel_rfl) (by kernel_rfl) ⟨s0, s1, s2⟩ (fun hHeld => ?_)
                clear s0 s1 s2
                simp only [List.map_cons, List.map_nil, List.getElem?_toArray, List.getElem?_cons_zero, List.getElem?_cons_succ]
                repeat (first
                  | (first | (refine seq_skip (by rfl) ?_; try simp only [Act.put, List.setIfInBounds_toArray, List.set_cons_zero, List.set_cons_succ]) | (refine seq_not (by rfl) (by assumption) ?_; try simp only [Act.put, List.setIfInBounds_toArray, List.set_cons_zero, List.set_cons_succ]) | (refine seq_take (v := ?_) (by rfl) ?_ ?_; rotate_left; (focus ((intro w hSw; (try dsimp only at hSw); go_simp; (try with_reducible rfl)); done)); try simp only [Act.put, List.setIfInBounds_toArray, List.set_cons_zero, List.set_cons_succ]))
                  | (refine seq_do (fun K hK => ?_); go_simp; (first | (go_at_call 16; (with_reducible refine Calls.mono (C1.out _ HL6.out.drew_) ?_)) | (go_at_call 16; (with_reducible refine Calls.mono (C2.out _ HL6.out.drew_) ?_)) | (go_at_call 21; (with_reducible refine Calls.mono (CM2.out _ HL6.out.drew_) ?_))); rintro e w7 ⟨rfl, rfl⟩; dsimp only; refine hK.out _ _ hHeld (fun _ => ?_); clear hK K))
                refine seq_done ?_
                clear hHeld
                go_wp2
                go_roundw
                case rel => exact ⟨k + 1, by omega, by go_num, by rw [HRS2.out]; exact HL6.out.drew_, by rw [HRS2.out]; exact Cs.drew HR6.out, HB6.out.drew⟩
                case measure => simp [intOf]; omega
          · have hmf : mayb a x0 x1 = false := by rw [hmd]; simp [g3]
            have d3 : decide (x0 < (n : Int)) = false := by simpa using g3
            as_aux_lemma =>
              clear hmd
              rw [hmf] at CS CR CM2 C1 C2
              simp only [if_true, Bool.false_eq_true, if_false, Bool.true_and, Bool.false_and] at CS CR C1 C2
              clear hmf
              go_wp2
              refine wp_region_seq [(0, true), (1, true), (2, true), (3, true), (4, true), (5, true), (6, true), (8, true), (9, true), (10, true), (11, true), (12, true), (13, true), (14, true), (7, false), (15, false), (16, true), (17, true), (18, true), (19, true), (20, true), (21, true), (22, true), (24, true), (25, true), (26, true), (23, false), (27, true), (28, true), (29, true), (30, true), (31, true), (32, true), (33, true), (34, true), (35, true), (36, true), (37, true), (38, true), (39, true), (40, true), (41, true), (42, true), (43, true), (44, true), (45, true), (46, true), (47, true), (48, true), (49, true), (50, true), (51, true), (52, true)] (fun w' => w'.cell? ⟨wr.heap.size, 0, none⟩ = some (.int .i64 x0) ∧ w'.cell? ⟨wr.heap.size, 1, none⟩ = some (.int .i64 x1) ∧ w'.cell? ⟨wr.heap.size, 2, none⟩ = some (.bool x2)) (by kernel_rfl) (by kernel_rfl) ⟨s0, s1, s2⟩ (fun hHeld => ?_)
              simp only [List.map_cons, List.map_nil, List.getElem?_toArray, List.getElem?_cons_zero, List.getElem?_cons_succ]
              repeat (first | (refine seq_skip (by rfl) ?_; try simp only [Act.put, List.setIfInBounds_toArray, List.set_cons_zero, List.set_cons_succ]) | (refine seq_not (by rfl) (by assumption) ?_; try simp only [Act.put, List.setIfInBounds_toArray, List.set_cons_zero, List.set_cons_succ]) | (refine seq_take (v := ?_) (by rfl) ?_ ?_; rotate_left; (focus ((intro w hSw; (try dsimp only at hSw); go_simp; (try with_reducible rfl)); done)); try simp only [Act.put, List.setIfInBounds_toArray, List.set_cons_zero, List.set_cons_succ]))
              refine seq_do (fun K hK => ?_)
              go_simp
              go_at_call 14
              (with_reducible refine Calls.mono CS.out ?_)
              rintro e w5 ⟨rfl, hL5, hk5⟩
              dsimp only
              clear hHeld s0 s1 s2
              have hc5 := blk_kp HCB.out hk5 (by omega)
              have HB5 := Lib.hid (below_kp HBa.out HBa.out.size hk5 (fun b hb => by omega))
              have HCR := Lib.hid (CR.out w5 hk5)
              have HCB5 := Lib.hid hc5
              have HL5 := Lib.hid hL5
              refine hK.out _ _ ⟨hc5.cell 0, hc5.cell 1, hc5.cell 2⟩ (fun hHeld => ?_)
              clear hK K hL5 hk5 hc5 CR CS HBa HCB
              repeat (first | (refine seq_skip (by rfl) ?_; try simp only [Act.put, List.setIfInBounds_toArray, List.set_cons_zero, List.set_cons_succ]) | (refine seq_not (by rfl) (by assumption) ?_; try simp only [Act.put, List.setIfInBounds_toArray, List.set_cons_zero, List.set_cons_succ]) | (refine seq_take (v := ?_) (by rfl) ?_ ?_; rotate_left; (focus ((intro w hSw; (try dsimp only at hSw); go_simp; (try with_reducible rfl)); done)); try simp only [Act.put, List.setIfInBounds_toArray, List.set_cons_zero, List.set_cons_succ]))
              refine seq_do (fun K hK => ?_)
              go_simp
              go_at_call 17
              (with_reducible refine Calls.mono HCR.out ?_)
              rintro e w6 ⟨rfl, hR6, hk6⟩
              dsimp only
              clear hHeld
              have hc6 := blk_kp HCB5.out hk6 (by omega)
              have HB6 := Lib.hid (below_kp HB5.out HB5.out.size hk6 (fun b hb => by omega))
              have HL6 := Lib.hid (HL5.out.kp hk6 (by omega) (by omega))
              have HCB6 := Lib.hid hc6
              have HR6 := Lib.hid hR6
              refine hK.out _ _ ⟨hc6.cell 0, hc6.cell 1, hc6.cell 2⟩ (fun hHeld => ?_)
              clear hK K hR6 hk6 hc6 HCR HB5 HL5 HCB5
              repeat (first | (refine seq_skip (by rfl) ?_; try simp only [Act.put, List.setIfInBounds_toArray, List.set_cons_zero, List.set_cons_succ]) | (refine seq_not (by rfl) (by assumption) ?_; try simp only [Act.put, List.setIfInBounds_toArray, List.set_cons_zero, List.set_cons_succ]) | (refine seq_take (v := ?_) (by rfl) ?_ ?_; rotate_left; (focus ((intro w hSw; (try dsimp only at hSw); go_simp; (try with_reducible rfl)); done)); try simp only [Act.put, List.setIfInBounds_toArray, List.set_cons_zero, List.set_cons_succ]))
              refine seq_do (fun K hK => ?_)
              go_simp
              go_at_call 21
              (with_reducible refine Calls.mono (CM2.out _ HL6.out) ?_)
              rintro e w7 ⟨rfl, rfl⟩
              dsimp only
              refine hK.out _ _ hHeld (fun _ => ?_)
              clear hK K
              repeat (first | (refine seq_skip (by rfl) ?_; try simp only [Act.put, List.setIfInBounds_toArray, List.set_cons_zero, List.set_cons_succ]) | (refine seq_not (by rfl) (by assumption) ?_; try simp only [Act.put, List.setIfInBounds_toArray, List.set_cons_zero, List.set_cons_succ]) | (refine seq_take (v := ?_) (by rfl) ?_ ?_; rotate_left; (focus ((intro w hSw; (try dsimp only at hSw); go_simp; (try with_reducible rfl)); done)); try simp only [Act.put, List.setIfInBounds_toArray, List.set_cons_zero, List.set_cons_succ]))
              refine seq_done ?_
              obtain ⟨s0, s1, s2⟩ := hHeld
              have s0 : w6.drew.cell? ⟨wr.heap.size, 0, none⟩ = some (.int .i64 x0) := s0
              have s1 : w6.drew.cell? ⟨wr.heap.size, 1, none⟩ = some (.int .i64 x1) := s1
              have s2 : w6.drew.cell? ⟨wr.heap.size, 2, none⟩ = some (.bool x2) := s2
              go_wp2
              refine wp_region_seq [(0, true), (1, true), (2, true), (3, true), (4, true), (6, true), (7, true), (8, true), (9, true), (10, true), (5, false), (11, false), (12, true), (13, true), (14, true), (15, true), (16, true), (17, true), (18, true), (19, true), (20, true), (21, true), (22, true), (24, true), (25, true), (26, true), (27, true), (28, true), (23, false), (29, false), (30, true), (31, true)] (fun w' => w'.cell? ⟨wr.heap.size, 0, none⟩ = some (.int .i64 x0) ∧ w'.cell? ⟨wr.heap.size, 1, none⟩ = some (.int .i64 x1) ∧ w'.cell? ⟨wr.heap.size, 2, none⟩ = some (.bool x2)) (by kernel_rfl) (by kernel_rfl) ⟨s0, s1, s2⟩ (fun hHeld => ?_)
              clear s0 s1 s2
              simp only [List.map_cons, List.map_nil, List.getElem?_toArray, List.getElem?_cons_zero, List.getElem?_cons_succ]
              repeat (first
                | (first | (refine seq_skip (by rfl) ?_; try simp only [Act.put, List.setIfInBounds_toArray, List.set_cons_zero, List.set_cons_succ]) | (refine seq_not (by rfl) (by assumption) ?_; try simp only [Act.put, List.setIfInBounds_toArray, List.set_cons_zero, List.set_cons_succ]) | (refine seq_take (v := ?_) (by rfl) ?_ ?_; rotate_left; (focus ((intro w hSw; (try dsimp only at hSw); go_simp; (try with_reducible rfl)); done)); try simp only [Act.put, List.setIfInBounds_toArray, List.set_cons_zero, List.set_cons_succ]))
                | (refine seq_do (fun K hK => ?_); go_simp; (first | (go_at_call 16; (with_reducible refine Calls.mono (C1.out _ HL6.out.drew_) ?_)) | (go_at_call 16; (with_reducible refine Calls.mono (C2.out _ HL6.out.drew_) ?_)) | (go_at_call 21; (with_reducible refine Calls.mono (CM2.out _ HL6.out.drew_) ?_))); rintro e w7 ⟨rfl, rfl⟩; dsimp only; refine hK.out _ _ hHeld (fun _ => ?_); clear hK K))
              refine seq_done ?_
              clear hHeld
              go_wp2
              go_roundw
              case rel => exact ⟨k + 1, by omega, by go_num, by rw [HRS2.out]; exact HL6.out.drew_, by rw [HRS2.out]; exact Cs.drew HR6.out, HB6.out.drew⟩
              case measure => simp [intOf]; omega
        · have hmf : mayb a x0 x1 = false := by rw [hmd]; simp [g2]
          have d2 : decide (0 ≤ x1) = false := by simpa using g2
          as_aux_lemma =>
            clear hmd
            rw [hmf] at CS CR CM2 C1 C2
            simp only [if_true, Bool.false_eq_true, if_false, Bool.true_and, Bool.false_and] at CS CR C1 C2
            clear hmf
            go_wp2
            refine wp_region_seq [(0, true), (1, true), (2, true), (3, true), (4, true), (5, true), (6, true), (8, true), (9, true), (10, true), (11, true), (12, true), (13, true), (14, true), (7, false), (15, false), (16, true), (17, true), (18, true), (19, true), (20, true), (21, true), (22, true), (24, true), (25, true), (26, true), (23, false), (27, true), (28, true), (29, true), (30, true), (31, true), (32, true), (33, true), (34, true), (35, true), (36, true), (37, true), (38, true), (39, true), (40, true), (41, true), (42, true), (43, true), (44, true), (45, true), (46, true), (47, true), (48, true), (49, true), (50, true), (51, true), (52, true)] (fun w' => w'.cell? ⟨wr.heap.size, 0, none⟩ = some (.int .i64 x0) ∧ w'.cell? ⟨wr.heap.size, 1, none⟩ = some (.int .i64 x1) ∧ w'.cell? ⟨wr.heap.size, 2, none⟩ = some (.bool x2)) (by kernel_rfl) (by kernel_rfl) ⟨s0, s1, s2⟩ (fun hHeld => ?_)
            simp only [List.map_cons, List.map_nil, List.getElem?_toArray, List.getElem?_cons_zero, List.getElem?_cons_succ]
            repeat (first | (refine seq_skip (by rfl) ?_; try simp only [Act.put, List.setIfInBounds_toArray, List.set_cons_zero, List.set_cons_succ]) | (refine seq_not (by rfl) (by assumption) ?_; try simp only [Act.put, List.setIfInBounds_toArray, List.set_cons_zero, List.set_cons_succ]) | (refine seq_take (v := ?_) (by rfl) ?_ ?_; rotate_left; (focus ((intro w hSw; (try dsimp only at hSw); go_simp; (try with_reducible rfl)); done)); try simp only [Act.put, List.setIfInBounds_toArray, List.set_cons_zero, List.set_cons_succ]))
            refine seq_do (fun K hK => ?_)
            go_simp
            go_at_call 14
            (with_reducible refine Calls.mono CS.out ?_)
            rintro e w5 ⟨rfl, hL5, hk5⟩
            dsimp only
            clear hHeld s0 s1 s2
            have hc5 := blk_kp HCB.out hk5 (by omega)
            have HB5 := Lib.hid (below_kp HBa.out HBa.out.size hk5 (fun b hb => by omega))
            have HCR := Lib.hid (CR.out w5 hk5)
            have HCB5 := Lib.hid hc5
            have HL5 := Lib.hid hL5
            refine hK.out _ _ ⟨hc5.cell 0, hc5.cell 1, hc5.cell 2⟩ (fun hHeld => ?_)
            clear hK K hL5 hk5 hc5 CR CS HBa HCB
            repeat (first | (refine seq_skip (by rfl) ?_; try simp only [Act.put, List.setIfInBounds_toArray, List.set_cons_zero, List.set_cons_succ]) | (refine seq_not (by rfl) (by assumption) ?_; try simp only [Act.put, List.setIfInBounds_toArray, List.set_cons_zero, List.set_cons_succ]) | (refine seq_take (v := ?_) (by rfl) ?_ ?_; rotate_left; (focus ((intro w hSw; (try dsimp only at hSw); go_simp; (try with_reducible rfl)); done)); try simp only [Act.put, List.setIfInBounds_toArray, List.set_cons_zero, List.set_cons_succ]))
            refine seq_do (fun K hK => ?_)
            go_simp
            go_at_call 17
            (with_reducible refine Calls.mono HCR.out ?_)
            rintro e w6 ⟨rfl, hR6, hk6⟩
            dsimp only
            clear hHeld
            have hc6 := blk_kp HCB5.out hk6 (by omega)
            have HB6 := Lib.hid (below_kp HB5.out HB5.out.size hk6 (fun b hb => by omega))
            have HL6 := Lib.hid (HL5.out.kp hk6 (by omega) (by omega))
            have HCB6 := Lib.hid hc6
            have HR6 := Lib.hid hR6
            refine hK.out _ _ ⟨hc6.cell 0, hc6.cell 1, hc6.cell 2⟩ (fun hHeld => ?_)
            clear hK K hR6 hk6 hc6 HCR HB5 HL5 HCB5
            repeat (first | (refine seq_skip (by rfl) ?_; try simp only [Act.put, List.setIfInBounds_toArray, List.set_cons_zero, List.set_cons_succ]) | (refine seq_not (by rfl) (by assumption) ?_; try simp only [Act.put, List.setIfInBounds_toArray, List.set_cons_zero, List.set_cons_succ]) | (refine seq_take (v := ?_) (by rfl) ?_ ?_; rotate_left; (focus ((intro w hSw; (try dsimp only at hSw); go_simp; (try with_reducible rfl)); done)); try simp only [Act.put, List.setIfInBounds_toArray, List.set_cons_zero, List.set_cons_succ]))
            refine seq_do (fun K hK => ?_)
            go_simp
            go_at_call 21
            (with_reducible refine Calls.mono (CM2.out _ HL6.out) ?_)
            rintro e w7 ⟨rfl, rfl⟩
            dsimp only
            refine hK.out _ _ hHeld (fun _ => ?_)
            clear hK K
            repeat (first | (refine seq_skip (by rfl) ?_; try simp only [Act.put, List.setIfInBounds_toArray, List.set_cons_zero, List.set_cons_succ]) | (refine seq_not (by rfl) (by assumption) ?_; try simp only [Act.put, List.setIfInBounds_toArray, List.set_cons_zero, List.set_cons_succ]) | (refine seq_take (v := ?_) (by rfl) ?_ ?_; rotate_left; (focus ((intro w hSw; (try dsimp only at hSw); go_simp; (try with_reducible rfl)); done)); try simp only [Act.put, List.setIfInBounds_toArray, List.set_cons_zero, List.set_cons_succ]))
            refine seq_done ?_
            obtain ⟨s0, s1, s2⟩ := hHeld
            have s0 : w6.drew.cell? ⟨wr.heap.size, 0, none⟩ = some (.int .i64 x0) := s0
            have s1 : w6.drew.cell? ⟨wr.heap.size, 1, none⟩ = some (.int .i64 x1) := s1
            have s2 : w6.drew.cell? ⟨wr.heap.size, 2, none⟩ = some (.bool x2) := s2
            go_wp2
            refine wp_region_seq [(0, true), (1, true), (2, true), (3, true), (4, true), (6, true), (7, true), (8, true), (9, true), (10, true), (5, false), (11, false), (12, true), (13, true), (14, true), (15, true), (16, true), (17, true), (18, true), (19, true), (20, true), (21, true), (22, true), (24, true), (25, true), (26, true), (27, true), (28, true), (23, false), (29, false), (30, true), (31, true)] (fun w' => w'.cell? ⟨wr.heap.size, 0, none⟩ = some (.int .i64 x0) ∧ w'.cell? ⟨wr.heap.size, 1, none⟩ = some (.int .i64 x1) ∧ w'.cell? ⟨wr.heap.size, 2, none⟩ = some (.bool x2)) (by kernel_rfl) (by kernel_rfl) ⟨s0, s1, s2⟩ (fun hHeld => ?_)
            clear s0 s1 s2
            simp only [List.map_cons, List.map_nil, List.getElem?_toArray, List.getElem?_cons_zero, List.getElem?_cons_succ]
            repeat (first
              | (first | (refine seq_skip (by rfl) ?_; try simp only [Act.put, List.setIfInBounds_toArray, List.set_cons_zero, List.set_cons_succ]) | (refine seq_not (by rfl) (by assumption) ?_; try simp only [Act.put, List.setIfInBounds_toArray, List.set_cons_zero, List.set_cons_succ]) | (refine seq_take (v := ?_) (by rfl) ?_ ?_; rotate_left; (focus ((intro w hSw; (try dsimp only at hSw); go_simp; (try with_reducible rfl)); done)); try simp only [Act.put, List.setIfInBounds_toArray, List.set_cons_zero, List.set_cons_succ]))
              | (refine seq_do (fun K hK => ?_); go_simp; (first | (go_at_call 16; (with_reducible refine Calls.mono (C1.out _ HL6.out.drew_) ?_)) | (go_at_call 16; (with_reducible refine Calls.mono (C2.out _ HL6.out.drew_) ?_)) | (go_at_call 21; (with_reducible refine Calls.mono (CM2.out _ HL6.out.drew_) ?_))); rintro e w7 ⟨rfl, rfl⟩; dsimp only; refine hK.out _ _ hHeld (fun _ => ?_); clear hK K))
            refine seq_done ?_
            clear hHeld
            go_wp2
            go_roundw
            case rel => exact ⟨k + 1, by omega, by go_num, by rw [HRS2.out]; exact HL6.out.drew_, by rw [HRS2.out]; exact Cs.drew HR6.out, HB6.out.drew⟩
            case measure => simp [intOf]; omega
      · have hmf : mayb a x0 x1 = false := by rw [hmd]; simp [g1]
        have d1 : decide (0 ≤ x0) = false := by simpa using g1
        as_aux_lemma =>
          clear hmd
          rw [hmf] at CS CR CM2 C1 C2
          simp only [if_true, Bool.false_eq_true, if_false, Bool.true_and, Bool.false_and] at CS CR C1 C2
          clear hmf
          go_wp2
          refine wp_region_seq [(0, true), (1, true), (2, true), (3, true), (4, true), (5, true), (6, true), (8, true), (9, true), (10, true), (11, true), (12, true), (13, true), (14, true), (7, false), (15, false), (16, true), (17, true), (18, true), (19, true), (20, true), (21, true), (22, true), (24, true), (25, true), (26, true), (23, false), (27, true), (28, true), (29, true), (30, true), (31, true), (32, true), (33, true), (34, true), (35, true), (36, true), (37, true), (38, true), (39, true), (40, true), (41, true), (42, true), (43, true), (44, true), (45, true), (46, true), (47, true), (48, true), (49, true), (50, true), (51, true), (52, true)] (fun w' => w'.cell? ⟨wr.heap.size, 0, none⟩ = some (.int .i64 x0) ∧ w'.cell? ⟨wr.heap.size, 1, none⟩ = some (.int .i64 x1) ∧ w'.cell? ⟨wr.heap.size, 2, none⟩ = some (.bool x2)) (by kernel_rfl) (by kernel_rfl) ⟨s0, s1, s2⟩ (fun hHeld => ?_)
          simp only [List.map_cons, List.map_nil, List.getElem?_toArray, List.getElem?_cons_zero, List.getElem?_cons_succ]
          repeat (first | (refine seq_skip (by rfl) ?_; try simp only [Act.put, List.setIfInBounds_toArray, List.set_cons_zero, List.set_cons_succ]) | (refine seq_not (by rfl) (by assumption) ?_; try simp only [Act.put, List.setIfInBounds_toArray, List.set_cons_zero, List.set_cons_succ]) | (refine seq_take (v := ?_) (by rfl) ?_ ?_; rotate_left; (focus ((intro w hSw; (try dsimp only at hSw); go_simp; (try with_reducible rfl)); done)); try simp only [Act.put, List.setIfInBounds_toArray, List.set_cons_zero, List.set_cons_succ]))
          refine seq_do (fun K hK => ?_)
          go_simp
          go_at_call 14
          (with_reducible refine Calls.mono CS.out ?_)
          rintro e w5 ⟨rfl, hL5, hk5⟩
          dsimp only
          clear hHeld s0 s1 s2
          have hc5 := blk_kp HCB.out hk5 (by omega)
          have HB5 := Lib.hid (below_kp HBa.out HBa.out.size hk5 (fun b hb => by omega))
          have HCR := Lib.hid (CR.out w5 hk5)
          have HCB5 := Lib.hid hc5
          have HL5 := Lib.hid hL5
          refine hK.out _ _ ⟨hc5.cell 0, hc5.cell 1, hc5.cell 2⟩ (fun hHeld => ?_)
          clear hK K hL5 hk5 hc5 CR CS HBa HCB
          repeat (first | (refine seq_skip (by rfl) ?_; try simp only [Act.put, List.setIfInBounds_toArray, List.set_cons_zero, List.set_cons_succ]) | (refine seq_not (by rfl) (by assumption) ?_; try simp only [Act.put, List.setIfInBounds_toArray, List.set_cons_zero, List.set_cons_succ]) | (refine seq_take (v := ?_) (by rfl) ?_ ?_; rotate_left; (focus ((intro w hSw; (try dsimp only at hSw); go_simp; (try with_reducible rfl)); done)); try simp only [Act.put, List.setIfInBounds_toArray, List.set_cons_zero, List.set_cons_succ]))
          refine seq_do (fun K hK => ?_)
          go_simp
          go_at_call 17
          (with_reducible refine Calls.mono HCR.out ?_)
          rintro e w6 ⟨rfl, hR6, hk6⟩
          dsimp only
          clear hHeld
          have hc6 := blk_kp HCB5.out hk6 (by omega)
          have HB6 := Lib.hid (below_kp HB5.out HB5.out.size hk6 (fun b hb => by omega))
          have HL6 := Lib.hid (HL5.out.kp hk6 (by omega) (by omega))
          have HCB6 := Lib.hid hc6
          have HR6 := Lib.hid hR6
          refine hK.out _ _ ⟨hc6.cell 0, hc6.cell 1, hc6.cell 2⟩ (fun hHeld => ?_)
          clear hK K hR6 hk6 hc6 HCR HB5 HL5 HCB5
          repeat (first | (refine seq_skip (by rfl) ?_; try simp only [Act.put, List.setIfInBounds_toArray, List.set_cons_zero, List.set_cons_succ]) | (refine seq_not (by rfl) (by assumption) ?_; try simp only [Act.put, List.setIfInBounds_toArray, List.set_cons_zero, List.set_cons_succ]) | (refine seq_take (v := ?_) (by rfl) ?_ ?_; rotate_left; (focus ((intro w hSw; (try dsimp only at hSw); go_simp; (try with_reducible rfl)); done)); try simp only [Act.put, List.setIfInBounds_toArray, List.set_cons_zero, List.set_cons_succ]))
          refine seq_do (fun K hK => ?_)
          go_simp
          go_at_call 21
          (with_reducible refine Calls.mono (CM2.out _ HL6.out) ?_)
          rintro e w7 ⟨rfl, rfl⟩
          dsimp only
          refine hK.out _ _ hHeld (fun _ => ?_)
          clear hK K
          repeat (first | (refine seq_skip (by rfl) ?_; try simp only [Act.put, List.setIfInBounds_toArray, List.set_cons_zero, List.set_cons_succ]) | (refine seq_not (by rfl) (by assumption) ?_; try simp only [Act.put, List.setIfInBounds_toArray, List.set_cons_zero, List.set_cons_succ]) | (refine seq_take (v := ?_) (by rfl) ?_ ?_; rotate_left; (focus ((intro w hSw; (try dsimp only at hSw); go_simp; (try with_reducible rfl)); done)); try simp only [Act.put, List.setIfInBounds_toArray, List.set_cons_zero, List.set_cons_succ]))
          refine seq_done ?_
          obtain ⟨s0, s1, s2⟩ := hHeld
          have s0 : w6.drew.cell? ⟨wr.heap.size, 0, none⟩ = some (.int .i64 x0) := s0
          have s1 : w6.drew.cell? ⟨wr.heap.size, 1, none⟩ = some (.int .i64 x1) := s1
          have s2 : w6.drew.cell? ⟨wr.heap.size, 2, none⟩ = some (.bool x2) := s2
          go_wp2
          refine wp_region_seq [(0, true), (1, true), (2, true), (3, true), (4, true), (6, true), (7, true), (8, true), (9, true), (10, true), (5, false), (11, false), (12, true), (13, true), (14, true), (15, true), (16, true), (17, true), (18, true), (19, true), (20, true), (21, true), (22, true), (24, true), (25, true), (26, true), (27, true), (28, true), (23, false), (29, false), (30, true), (31, true)] (fun w' => w'.cell? ⟨wr.heap.size, 0, none⟩ = some (.int .i64 x0) ∧ w'.cell? ⟨wr.heap.size, 1, none⟩ = some (.int .i64 x1) ∧ w'.cell? ⟨wr.heap.size, 2, none⟩ = some (.bool x2)) (by kernel_rfl) (by kernel_rfl) ⟨s0, s1, s2⟩ (fun hHeld => ?_)
          clear s0 s1 s2
          simp only [List.map_cons, List.map_nil, List.getElem?_toArray, List.getElem?_cons_zero, List.getElem?_cons_succ]
          repeat (first
            | (first | (refine seq_skip (by rfl) ?_; try simp only [Act.put, List.setIfInBounds_toArray, List.set_cons_zero, List.set_cons_succ]) | (refine seq_not (by rfl) (by assumption) ?_; try simp only [Act.put, List.setIfInBounds_toArray, List.set_cons_zero, List.set_cons_succ]) | (refine seq_take (v := ?_) (by rfl) ?_ ?_; rotate_left; (focus ((intro w hSw; (try dsimp only at hSw); go_simp; (try with_reducible rfl)); done)); try simp only [Act.put, List.setIfInBounds_toArray, List.set_cons_zero, List.set_cons_succ]))
            | (refine seq_do (fun K hK => ?_); go_simp; (first | (go_at_call 16; (with_reducible refine Calls.mono (C1.out _ HL6.out.drew_) ?_)) | (go_at_call 16; (with_reducible refine Calls.mono (C2.out _ HL6.out.drew_) ?_)) | (go_at_call 21; (with_reducible refine Calls.mono (CM2.out _ HL6.out.drew_) ?_))); rintro e w7 ⟨rfl, rfl⟩; dsimp only; refine hK.out _ _ hHeld (fun _ => ?_); clear hK K))
          refine seq_done ?_
          clear hHeld
          go_wp2
          go_roundw
          case rel => exact ⟨k + 1, by omega, by go_num, by rw [HRS2.out]; exact HL6.out.drew_, by rw [HRS2.out]; exact Cs.drew HR6.out, HB6.out.drew⟩
          case measure => simp [intOf]; omega
    · have hke : k = len1 := by omega
      subst hke
      rw [List.take_of_length_le (Nat.le_of_eq HW.out.1)] at hL hR hsy hal
      generalize run (List.replicate n 0) z1 = a at hL hR hsy hal
      clear HL4 hRe HB4
      have HLe := Lib.hid hL
      have HRe := Lib.hid hR
      have HBe := Lib.hid hB
      clear hL hR hB
      go_wp2
      go_loopw [13] (fun i wr => ∃ x : Nat, x ≤ n ∧ i = .int .i64 x ∧ Ln wr p g a ∧ Re wr m a ∧ Below W.heap.size W wr) (fun i _ => n - (intOf i).toNat)
      case atStart => exact ⟨0, Nat.zero_le _, rfl, HLe.out, HRe.out, HBe.out⟩
      case round =>
        obtain ⟨x, hx, rfl, hLx, hRx, hBx⟩ := hrel
        by_cases hxn : x < n
        · have xn : (x : Int) < (n : Int) := by omega
          have x64 : (x : Int) < 64 := by omega
          have HLx := Lib.hid hLx
          have HRx := Lib.hid hRx
          have HBx := Lib.hid hBx
          clear hLx hRx hBx HLe HRe HBe
          go_wp2
          go_loopw [14] (fun i wr => ∃ y : Nat, y ≤ 64 ∧ i = .int .i64 y ∧ Ln wr p g a ∧ Re wr m a ∧ Below W.heap.size W wr) (fun i _ => 64 - (intOf i).toNat)
          case atStart => exact ⟨0, Nat.zero_le _, rfl, HLx.out, HRx.out, HBx.out⟩
          case round =>
            obtain ⟨y, hy, rfl, hLy, hRy, hBy⟩ := hrel
            by_cases hyn : y < 64
            · have yn : (y : Int) < 64 := by omega
              have ix : isn a x = true := by simp [isn]; omega
              have CN := Lib.hid (show Calls Tryd.prog 23 #[.pointer (some ⟨p, 0, none⟩), .int .i64 x] wr.drew fun e w' => e = .returned (.int .u64 (a.getD x 0 : Nat)) ∧ wr.drew = w' by
                have h := near_any (some ⟨p, 0, none⟩) a x wr.drew (.inr ⟨p, g, rfl, hLy.drew_⟩)
                unfold set_ at h
                rw [if_pos ix, Int.toNat_natCast] at h
                exact h)
              have CI := Lib.hid (in_ok (a.getD x 0) y wr.drew)
              rw [inb_nat _ y hyn] at CI
              have s0 : wr.drew.cell? ⟨m, 1 + x * 64 + y, none⟩ = some (.bool (B a x y)) := Re.at_ (Cs.drew hRy) (by omega) hyn
              have HLy := Lib.hid hLy.drew_
              have HRy := Lib.hid (Cs.drew hRy)
              have HBy := Lib.hid hBy.drew
              clear hLy hRy hBy ix
              unfold B at s0
              generalize a.getD x 0 = v at CN CI s0
              cases hb : v.testBit y with
              | false =>
                rw [hb] at CI s0
                clear hb
                go_wp2
                refine wp_region_seq [(0, true), (1, true), (3, true), (5, true), (6, true), (7, true), (8, true), (9, true), (10, true), (11, true), (12, true), (2, false), (4, false), (13, true)] (fun w' => w'.cell? ⟨m, 1 + x * 64 + y, none⟩ = some (.bool false)) (by kernel_rfl) (by kernel_rfl) s0 (fun hHeld => ?_)
                clear s0
                simp only [List.map_cons, List.map_nil, List.getElem?_toArray, List.getElem?_cons_zero, List.getElem?_cons_succ]
                repeat (first
                  | (first | (refine seq_skip (by rfl) ?_; try simp only [Act.put, List.setIfInBounds_toArray, List.set_cons_zero, List.set_cons_succ]) | (refine seq_not (by rfl) (by assumption) ?_; try simp only [Act.put, List.setIfInBounds_toArray, List.set_cons_zero, List.set_cons_succ]) | (refine seq_take (v := ?_) (by rfl) ?_ ?_; rotate_left; (focus ((intro w hSw; (try dsimp only at hSw); go_simp; (try with_reducible rfl)); done)); try simp only [Act.put, List.setIfInBounds_toArray, List.set_cons_zero, List.set_cons_succ]))
                  | (refine seq_do (fun K hK => ?_); go_simp; (first | (go_at_call 23; (with_reducible refine Calls.mono CN.out ?_)) | (go_at_call 11; (with_reducible refine Calls.mono CI.out ?_))); rintro e w7 ⟨rfl, rfl⟩; dsimp only; refine hK.out _ _ hHeld (fun _ => ?_); clear hK K))
                refine seq_done ?_
                clear hHeld
                go_wp2
                go_roundw
                case rel => exact ⟨y + 1, by omega, by go_num, HLy.out, HRy.out, HBy.out⟩
                case measure => simp [intOf]; omega
              | true =>
                rw [hb] at CI s0
                clear hb
                go_wp2
                refine wp_region_seq [(0, true), (1, true), (3, true), (5, true), (6, true), (7, true), (8, true), (9, true), (10, true), (11, true), (12, true), (2, false), (4, false), (13, true)] (fun w' => w'.cell? ⟨m, 1 + x * 64 + y, none⟩ = some (.bool true)) (by kernel_rfl) (by kernel_rfl) s0 (fun hHeld => ?_)
                clear s0
                simp only [List.map_cons, List.map_nil, List.getElem?_toArray, List.getElem?_cons_zero, List.getElem?_cons_succ]
                repeat (first
                  | (first | (refine seq_skip (by rfl) ?_; try simp only [Act.put, List.setIfInBounds_toArray, List.set_cons_zero, List.set_cons_succ]) | (refine seq_not (by rfl) (by assumption) ?_; try simp only [Act.put, List.setIfInBounds_toArray, List.set_cons_zero, List.set_cons_succ]) | (refine seq_take (v := ?_) (by rfl) ?_ ?_; rotate_left; (focus ((intro w hSw; (try dsimp only at hSw); go_simp; (try with_reducible rfl)); done)); try simp only [Act.put, List.setIfInBounds_toArray, List.set_cons_zero, List.set_cons_succ]))
                  | (refine seq_do (fun K hK => ?_); go_simp; (first | (go_at_call 23; (with_reducible refine Calls.mono CN.out ?_)) | (go_at_call 11; (with_reducible refine Calls.mono CI.out ?_))); rintro e w7 ⟨rfl, rfl⟩; dsimp only; refine hK.out _ _ hHeld (fun _ => ?_); clear hK K))
                refine seq_done ?_
                clear hHeld
                go_wp2
                go_roundw
                case rel => exact ⟨y + 1, by omega, by go_num, HLy.out, HRy.out, HBy.out⟩
                case measure => simp [intOf]; omega
            · have hye : y = 64 := by omega
              subst hye
              have HLz := Lib.hid hLy
              have HRz := Lib.hid hRy
              have HBz := Lib.hid hBy
              clear hLy hRy hBy
              go_wp2
              go_roundw
              case rel => exact ⟨x + 1, by omega, by go_num, HLz.out, HRz.out, HBz.out⟩
              case measure => simp [intOf]; omega
        · have hxe : x = n := by omega
          subst hxe
          have CL := Lib.hid (show Calls Tryd.prog 22 #[.pointer (some ⟨p, 0, none⟩)] wr fun e w' => e = .returned (.int .i64 (x : Nat)) ∧ wr = w' by rw [← hal]; exact len_any _ a wr (.inr ⟨p, g, rfl, hLx⟩))
          have nx : isn a (x : Int) = false := by simp [isn]; omega
          have n1 : isn a (-1) = false := by simp [isn]
          have CN := Lib.hid (show Calls Tryd.prog 23 #[.pointer (some ⟨p, 0, none⟩), .int .i64 x] wr fun e w' => e = .returned (.int .u64 0) ∧ wr = w' by
            have h := near_any (some ⟨p, 0, none⟩) a x wr (.inr ⟨p, g, rfl, hLx⟩)
            unfold set_ at h
            rw [if_neg (by rw [nx]; decide)] at h
            exact h)
          have CM := Lib.hid (show Calls Tryd.prog 23 #[.pointer (some ⟨p, 0, none⟩), .int .i64 (-1)] wr fun e w' => e = .returned (.int .u64 0) ∧ wr = w' by
            have h := near_any (some ⟨p, 0, none⟩) a (-1) wr (.inr ⟨p, g, rfl, hLx⟩)
            unfold set_ at h
            rw [if_neg (by rw [n1]; decide)] at h
            exact h)
          have CH := Lib.hid (show Calls Tryd.prog 16 #[.pointer (some ⟨p, 0, none⟩), .int .i64 0, .int .i64 x] wr fun e w' => e = .returned (.bool false) ∧ wr = w' by
            have h := has_any (some ⟨p, 0, none⟩) a 0 x wr (.inr ⟨p, g, rfl, hLx⟩) (by omega)
            rw [nx] at h
            exact h)
          have HBz := Lib.hid hBx
          clear hLx hRx hBx nx n1
          go_wp2_with (first
            | (go_at_call 22; (with_reducible refine Calls.mono CL.out ?_); rintro e w8 ⟨rfl, rfl⟩)
            | (go_at_call 23; (with_reducible refine Calls.mono CN.out ?_); rintro e w8 ⟨rfl, rfl⟩)
            | (go_at_call 23; (with_reducible refine Calls.mono CM.out ?_); rintro e w8 ⟨rfl, rfl⟩)
            | (go_at_call 16; (with_reducible refine Calls.mono CH.out ?_); rintro e w8 ⟨rfl, rfl⟩))
          go_ret
          exact ⟨rfl, HBz.out⟩
end Go.Proofs.YtfmkamkbbeahgaaDoor.LinksDoW
