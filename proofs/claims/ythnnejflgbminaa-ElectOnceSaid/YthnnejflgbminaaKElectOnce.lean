/- Of marks that are taken of one root, in one life, each is newer than the one that was taken ahead of it. No condition. -/
import Derived.Test.YthnnejflgbminaaEo
import Derived.Test.YthnnejflgbminaaLf
import Derived.Deep.CutBlock
import Derived.Deep.DeepCutAuto
namespace Go.Proofs.Ythnnejflgbminaa.ElectOnceW
open Go.RowKit Go.Proofs.Ythnnejflgbminaa.Bk Go.Proofs.Ythnnejflgbminaa.Rw Go.Proofs.Ythnnejflgbminaa.Ow Go.Proofs.Ythnnejflgbminaa.Kp Go.Proofs.Ythnnejflgbminaa.Sq Go.Proofs.Ythnnejflgbminaa.Ck Go.Proofs.Ythnnejflgbminaa.Ck2 Go.Proofs.Ythnnejflgbminaa.Mp Go.Proofs.Ythnnejflgbminaa.El

theorem elem2 {w : World} {A : Option Addr} {len : Nat} {vs : List (List Value)} (h : Lf.RowsAt w [.i .i64, .i .i64, .i .u16, .i .u16] A len vs) {k : Nat} (hk : k < len) :
    ∃ (ad : Addr) (x0 : Int) (x1 : Int) (x2 : Int) (x3 : Int), A = some ad ∧ vs[k]? = some [.int .i64 x0, .int .i64 x1, .int .u16 x2, .int .u16 x3] ∧ w.cell? (ad.add (k * 4)) = some (.int .i64 x0) ∧ w.cell? ⟨(ad.add (k * 4)).block, (ad.add (k * 4)).off + 1, none⟩ = some (.int .i64 x1) ∧ w.cell? ⟨(ad.add (k * 4)).block, (ad.add (k * 4)).off + 2, none⟩ = some (.int .u16 x2) ∧ w.cell? ⟨(ad.add (k * 4)).block, (ad.add (k * 4)).off + 3, none⟩ = some (.int .u16 x3) ∧ (Lit.int .i64 x0).wf = true ∧ (Lit.int .i64 x1).wf = true ∧ (Lit.int .u16 x2).wf = true ∧ (Lit.int .u16 x3).wf = true := by
  obtain ⟨ad, c, rfl, hv, hL, hc0, hcj⟩ := h.elem hk
  obtain ⟨u0, g0, q0, ⟨x0, e0, f0⟩, L0⟩ := hL.cons
  obtain ⟨u1, g1, q1, ⟨x1, e1, f1⟩, L1⟩ := L0.cons
  obtain ⟨u2, g2, q2, ⟨x2, e2, f2⟩, L2⟩ := L1.cons
  obtain ⟨u3, g3, q3, ⟨x3, e3, f3⟩, L3⟩ := L2.cons
  have n_ := L3.nil
  have hcc : c = [.int .i64 x0, .int .i64 x1, .int .u16 x2, .int .u16 x3] := by rw [q0, e0, q1, e1, q2, e2, q3, e3, n_]
  rw [hcc] at hv hc0 hcj
  exact ⟨ad, x0, x1, x2, x3, rfl, hv, hc0 _ rfl, hcj 0 _ rfl, hcj 1 _ rfl, hcj 2 _ rfl, f0, f1, f2, f3⟩
theorem kn_nd {w : World} {b p bm : Nat} {me t g : Int} {s : St} {f : Int → Option (Int × Int)} (h : Kn w b f) (h2 : Nd w p me t g s bm) : b ≠ p := by
  obtain ⟨cs, h1, _, _⟩ := h
  exact Blk.ne_ h1 h2 (by decide)
theorem la_nd {w : World} {b p bm : Nat} {me t g : Int} {s : St} {la : Nat → Int × Int} (h : La w b la) (h2 : Nd w p me t g s bm) : b ≠ p := by
  obtain ⟨cs, h1, _, _⟩ := h
  exact Blk.ne_ h1 h2 (by decide)
theorem kn_la {w : World} {b p : Nat} {f : Int → Option (Int × Int)} {la : Nat → Int × Int} (h : Kn w b f) (h2 : La w p la) : b ≠ p := by
  obtain ⟨cs, h1, _, _⟩ := h
  obtain ⟨cs2, h3, _, _⟩ := h2
  exact Blk.ne_ h1 h3 (by decide)
theorem kn_mp {w : World} {b bm n : Nat} {f f' : Int → Option (Int × Int)} (h : Kn w b f) (h2 : Mp w bm n f') : bm ≠ b := by
  obtain ⟨cs, h1, _, _⟩ := h
  exact h2.blk_ne h1
theorem la_mp {w : World} {b bm n : Nat} {f' : Int → Option (Int × Int)} {la : Nat → Int × Int} (h : La w b la) (h2 : Mp w bm n f') : bm ≠ b := by
  obtain ⟨cs, h1, _, _⟩ := h
  exact h2.blk_ne h1

set_option maxRecDepth 100000 in
theorem early (a0 a1_0 a1_1 : Int) (a2 : Option Addr) (len2 cap2 : Nat) (W : World) (h : (a0 < 0 ∨ 63 < a0) ∨ gd a1_0 a1_1 = false) (hl : ¬ (300 : Int) < len2) :
    Calls Try.prog 3 #[.int .i64 a0, .agg #[.int .i64 a1_0, .int .i64 a1_1], .slice a2 len2 cap2] W fun e w' => e = .returned (.bool true) ∧ Below W.heap.size W w' := by
  have N0 := Lib.hid (fun w => new_no a0 a1_0 a1_1 w h)
  have HX0 := Lib.hid (Blk.new W 23 #[.int .i64 a1_0, .int .i64 a1_1])
  have HB0 := Lib.hid ((Below.refl _ W).alloc (Nat.le_refl _) (.cells #[.int .i64 a1_0, .int .i64 a1_1] 23))
  clear h
  go_enter Try.func3, Try.ntmps3
  go_wp2_with fail
  refine (alive_ok _).mono ?_
  rintro e w1 ⟨rfl, hb⟩
  have HX1 := Lib.hid (HX0.out.keeps hb)
  have HB1 := Lib.hid (HB0.out.trans (hb.mono HB0.out.size))
  have hx := cells2 HX1.out
  obtain ⟨x0, x1, _, _⟩ := hx
  clear hb HX0 HB0
  go_wp2_with fail
  refine (N0.out _).mono ?_
  rintro e w2 ⟨rfl, hb⟩
  have HB2 := Lib.hid (HB1.out.trans (hb.mono HB1.out.size))
  clear hb x0 x1
  go_wp2
  go_ret
  exact ⟨rfl, HB2.out⟩

set_option maxRecDepth 100000 in
set_option maxHeartbeats 8000000 in
set_option linter.unusedVariables false in
theorem walk (a0 : Int) (a1_0 : Int) (a1_1 : Int) (a2 : Option Addr) (len2 cap2 : Nat) (z2 : List (List Value)) (W : World) (w0 : (Lit.int .i64 a0).wf = true) (w1_0 : (Lit.int .i64 a1_0).wf = true) (w1_1 : (Lit.int .i64 a1_1).wf = true) (l2 : len2 ≤ cap2) (m2 : cap2 ≤ maxLen) (w2 : Lf.RowsAt W [.i .i64, .i .i64, .i .u16, .i .u16] a2 len2 z2) :
    Calls Try.prog 3 #[.int .i64 a0, .agg #[.int .i64 a1_0, .int .i64 a1_1], .slice a2 len2 cap2] W fun e w' => e = .returned (.bool true) ∧ Below W.heap.size W w' := by
  have hl8 : len2 ≤ 9223372036854775807 := by unfold maxLen at m2; omega
  have R := Lib.hid w2
  clear w0 w1_0 w1_1 w2 m2
  by_cases c3 : (300 : Int) < len2
  · have HB0 := Lib.hid ((Below.refl _ W).alloc (Nat.le_refl _) (.cells #[.int .i64 a1_0, .int .i64 a1_1] 23))
    go_enter Try.func3, Try.ntmps3
    go_wp2_with (go_at_call 8; refine (alive_ok _).mono ?_; rintro e w1 ⟨rfl, hb⟩; have HB1 := Lib.hid (HB0.out.trans (hb.mono HB0.out.size)); clear hb)
    go_ret
    exact ⟨rfl, HB1.out⟩
  by_cases hr : (a0 < 0 ∨ 63 < a0) ∨ gd a1_0 a1_1 = false
  · exact early a0 a1_0 a1_1 a2 len2 cap2 W hr c3
  have RU := Lib.hid (RuOk.of hr)
  clear hr
  have HX0 := Lib.hid (Blk.new W 23 #[.int .i64 a1_0, .int .i64 a1_1])
  have HB0 := Lib.hid ((Below.refl _ W).alloc (Nat.le_refl _) (.cells #[.int .i64 a1_0, .int .i64 a1_1] 23))
  go_enter Try.func3, Try.ntmps3
  go_wp2_with fail
  refine (alive_ok _).mono ?_
  rintro e w1 ⟨rfl, hb⟩
  have HX1 := Lib.hid (HX0.out.keeps hb)
  have HB1 := Lib.hid (HB0.out.trans (hb.mono HB0.out.size))
  have hx := cells2 HX1.out
  obtain ⟨x0, x1, _, _⟩ := hx
  clear hb HX0 HB0
  go_wp2_with fail
  refine (ob_new _ RU.out).mono ?_
  rintro e w2 ⟨p, bm, rfl, ho, hp, hbm, hb⟩
  have HO0 := Lib.hid ho
  have HB0 := Lib.hid (HB1.out.trans (hb.mono HB1.out.size))
  have hxl := HX1.out.lt
  clear ho hb x0 x1 HX1 HB1
  have hp2 : W.heap.size ≤ p := by omega
  have hb2 : W.heap.size ≤ bm := by omega
  clear hp hbm hxl
  have hz1 := zM
  have hz2 := zK
  have HL0 := Lib.hid (La.new w2)
  have HK0 := Lib.hid (show Kn ((w2.alloc (.cells ZM 33)).alloc (.cells ZK 34)) (w2.heap.size + 1) (fun _ => none) by have h := Kn.new (w2.alloc (.cells ZM 33)); rw [World.size_alloc] at h; exact h)
  have HL1 := Lib.hid ((HL0.out : La _ _ _).alloc (.cells ZK 34))
  have HO1 := Lib.hid ((HO0.out.alloc (.cells ZM 33)).alloc (.cells ZK 34))
  have HB1 := Lib.hid ((HB0.out.alloc HB0.out.size (.cells ZM 33)).alloc (Nat.le_trans HB0.out.size (by simp)) (.cells ZK 34))
  have hW2 := HB0.out.size
  obtain ⟨ZMv, hZM⟩ : ∃ z, ZM = z := ⟨_, rfl⟩
  obtain ⟨ZKv, hZK⟩ : ∃ z, ZK = z := ⟨_, rfl⟩
  clear HL0 HO0 HB0
  rw [hZM] at hz1 HK0 HL1 HO1 HB1
  rw [hZK] at hz2 HK0 HL1 HO1 HB1
  have HZ := Lib.hid hZK
  clear hZM hZK
  go_wp2_with fail
  generalize (w2.alloc (.cells ZMv 33)).alloc (.cells ZKv 34) = w3 at HK0 HL1 HO1 HB1 ⊢
  obtain ⟨lb, hlb⟩ : ∃ lb, w2.heap.size = lb := ⟨_, rfl⟩
  rw [hlb] at HL1 HK0 hW2 ⊢
  obtain ⟨kb, hkb⟩ : ∃ kb, lb + 1 = kb := ⟨_, rfl⟩
  rw [hkb] at HK0 ⊢
  have hkW : W.heap.size ≤ kb := by omega
  clear hlb hkb
  go_loopw [30] (fun i wr => ∃ (k bm n : Nat) (s : St) (f : Int → Option (Int × Int)) (la : Nat → Int × Int), k ≤ len2 ∧ n ≤ k ∧ i = .int .i64 k ∧ W.heap.size ≤ bm ∧ StOk a0 a1_0 a1_1 s ∧ FOk a0 s f ∧ (∀ (i : Nat) o, f i = some o → la i = o) ∧ Ob wr p bm n a0 a1_0 a1_1 s f ∧ Kn wr kb f ∧ La wr lb la ∧ Below W.heap.size W wr) (fun i _ => len2 - (intOf i).toNat)
  case atStart => exact ⟨0, bm, 0, st0 0, _, _, Nat.zero_le _, Nat.le_refl _, rfl, hb2, StOk.st0 RU.out 0, FOk.st0 _ _, fun _ _ h => (nomatch h), HO1.out, HK0.out, HL1.out, HB1.out⟩
  case round =>
    clear HO1 HK0 HL1 HB1 hb2
    obtain ⟨k, bm, n, s, f, la, hk, hnk, rfl, hbm, hs, hf, hla, ho, hkn, hln, hb⟩ := hrel
    have HS := Lib.hid hs
    have HF := Lib.hid hf
    have HA := Lib.hid hla
    have HO := Lib.hid ho
    have HK := Lib.hid hkn
    have HL := Lib.hid hln
    have HB := Lib.hid hb
    have e1 := kn_nd hkn ho.nd
    have e2 := la_nd hln ho.nd
    have e3 := kn_la hkn hln
    have e4 := kn_mp hkn ho.mp
    have e5 := la_mp hln ho.mp
    have e6 := ho.ne
    clear hs hf hla ho hkn hln hb
    by_cases hlt : k < len2
    · obtain ⟨ad, x0, x1, x2, x3, rfl, _, e0', e1', e2', e3', wx0, wx1, wx2, wx3⟩ := elem2 (R.out.below HB.out) hlt
      have hx1 := bounds_i64 wx1
      have hx2 := bounds_u16 wx2
      have hx3 := bounds_u16 wx3
      have HW := Lib.hid (show -9223372036854775808 ≤ x1 ∧ x1 ≤ 9223372036854775807 by omega)
      have HU := Lib.hid (show U16 (x2, x3) from ⟨by dsimp only; omega, by dsimp only; omega⟩)
      clear wx0 wx1 wx2 wx3 hx1 hx2 hx3
      have HO2 := Lib.hid (HO.out.alloc (.cells #[.int .i64 x0, .int .i64 x1, .int .u16 x2, .int .u16 x3] 36))
      have HK2 := Lib.hid (show Kn _ _ _ from Cs.alloc HK.out (.cells #[.int .i64 x0, .int .i64 x1, .int .u16 x2, .int .u16 x3] 36))
      have HL2 := Lib.hid (show La _ _ _ from Cs.alloc HL.out (.cells #[.int .i64 x0, .int .i64 x1, .int .u16 x2, .int .u16 x3] 36))
      have HX2 := Lib.hid (Blk.new wr 36 #[.int .i64 x0, .int .i64 x1, .int .u16 x2, .int .u16 x3])
      have HB2 := Lib.hid (HB.out.alloc HB.out.size (.cells #[.int .i64 x0, .int .i64 x1, .int .u16 x2, .int .u16 x3] 36))
      have hbx := HB.out.size
      have hop := HO.out.nd.lt
      have hom := HO.out.mp.lt
      have hok := Cs.lt HK.out
      have hol := Cs.lt HL.out
      have HN := Lib.hid (show n < maxLen by unfold maxLen; omega)
      clear HO HK HL HB
      go_upto_block 2 with fail
      clear e0' e1' e2' e3'
      generalize wr.alloc (.cells #[.int .i64 x0, .int .i64 x1, .int .u16 x2, .int .u16 x3] 36) = w2 at HO2 HK2 HL2 HX2 HB2 ⊢
      generalize wr.heap.size = bx at HX2 hbx hop hom hok hol ⊢
      have b1 := HX2.out.cell 1
      have b2 := HX2.out.cell 2
      have b3 := HX2.out.cell 3
      by_cases k0 : x0 = 0
      · as_aux_lemma =>
        subst k0
        have ht : takes a0 s f x1 (x2, x3) = true ∨ takes a0 s f x1 (x2, x3) = false := by cases takes a0 s f x1 (x2, x3) <;> simp
        rcases ht with ht | ht
        rotate_left
        · have HE := Lib.hid (hear_not ht)
          clear ht
          go_wp2_with fail
          refine (ob_hear_is HO2.out HN.out HW.out HE.out).mono ?_
          rintro e w5 ⟨rfl, ho, hk⟩
          have HO5 := Lib.hid ho
          have HK5 := Lib.hid (show Kn _ _ _ from Cs.kp HK2.out hk (by omega))
          have HL5 := Lib.hid (show La _ _ _ from Cs.kp HL2.out hk (by omega))
          have HB5 := Lib.hid (below_kp HB2.out HB2.out.size hk (fun k hk => by omega))
          clear ho hk HO2 HK2 HL2 HX2 HB2 b1 b2 b3
          go_wp2
          go_roundw
          case rel => exact ⟨k + 1, bm, n + 1, s, f, la, by omega, by omega, by go_num, hbm, HS.out, HF.out, HA.out, HO5.out, HK5.out, HL5.out, HB5.out⟩
          case measure => simp [intOf]; omega
        · have hl := takes_lt ht
          have hm1 := RU.out.m1
          obtain ⟨x, rfl⟩ : ∃ x : Nat, x1 = x := ⟨x1.toNat, by omega⟩
          have hx : x < 64 := by omega
          have n0 : ¬ ((x : Int) < 0) := by omega
          have n1 : (x : Int) < 64 := by omega
          have n2 : (x : Int) ≤ 63 := by omega
          have n3 : decide ((63 : Int) < x) = false := by simp; omega
          have hst := HS.out.hear (f := f) (r := (x : Int)) (m := (x2, x3)) RU.out
          have hft := HF.out.hear (r := (x : Int)) HU.out
          obtain ⟨v, s2, he, hv, hr⟩ := hear_yes ht
          rw [he] at hst hft
          have HE := Lib.hid he
          have HS2 := Lib.hid (show StOk a0 a1_0 a1_1 s2 from hst)
          have HF2 := Lib.hid (show FOk a0 s2 (put f x (x2, x3)) from hft)
          have HT := Lib.hid ht
          have v1 : (v == 0) = false := by rcases hv with rfl | rfl <;> rfl
          have v2 : (v != 0) = true := by rcases hv with rfl | rfl <;> rfl
          clear ht he hst hft hr hv hl hm1
          go_upto_region 18 with (go_at_call 10; (with_reducible refine Calls.mono (ob_hear_is HO2.out HN.out HW.out HE.out) ?_); rintro e w5 ⟨rfl, ho, hk⟩; have HO5 := Lib.hid ho; have HX5 := Lib.hid (blk_kp HX2.out hk (by omega)); have HK5 := Lib.hid (show Kn _ _ _ from Cs.kp HK2.out hk (by omega)); have HL5 := Lib.hid (show La _ _ _ from Cs.kp HL2.out hk (by omega)); have HB5 := Lib.hid (below_kp HB2.out HB2.out.size hk (fun k hk => by omega)); clear ho hk HO2 HK2 HL2 HX2 HB2 b1 b2 b3)
          have b1 := HX5.out.cell 1
          go_upto_region 20 with fail
          clear b1
          have hkc : (w5.drew).cell? ⟨kb, x, none⟩ = some (.bool (f (x : Int)).isSome) := (show Kn _ _ _ from Cs.drew HK5.out).cell hx
          have hl1 := (show La _ _ _ from Cs.drew HL5.out).fst hx
          have hl2 := (show La _ _ _ from Cs.drew HL5.out).snd hx
          have hxc := HX5.out.drew
          have b1 := hxc.cell 1
          have b2 := hxc.cell 2
          have b3 := hxc.cell 3
          clear hxc
          go_cut [78] (fun c wx => c = .bool false ∧ wx = w5.drew)
          case first =>
            obtain ⟨kx, hkx⟩ : ∃ kx, f (x : Int) = kx := ⟨_, rfl⟩
            rw [hkx] at hkc
            cases kx with
            | none =>
              dsimp only [Option.isSome_none] at hkc
              refine wp_region_seq [(0, true), (1, true), (2, true), (3, true), (4, true), (5, true), (6, true), (7, true), (8, true), (9, true), (10, true), (11, true), (12, true), (13, true), (14, true), (15, true), (16, true), (17, true), (18, true), (19, true), (20, true), (21, false), (22, true), (23, true)] (fun w' => w'.cell? ⟨bx, 1, none⟩ = some (.int .i64 x) ∧ w'.cell? ⟨kb, x, none⟩ = some (.bool false)) (by kernel_rfl) (by kernel_rfl) ⟨b1, hkc⟩ (fun hHeld => ?_)
              simp only [List.map_cons, List.map_nil, List.getElem?_toArray, List.getElem?_cons_zero, List.getElem?_cons_succ]
              repeat (first | (refine seq_skip (by rfl) ?_; try simp only [Act.put, List.setIfInBounds_toArray, List.set_cons_zero, List.set_cons_succ]) | (refine seq_not (by rfl) (by assumption) ?_; try simp only [Act.put, List.setIfInBounds_toArray, List.set_cons_zero, List.set_cons_succ]) | (refine seq_take (v := ?_) (by rfl) ?_ ?_; rotate_left; (focus ((intro w hSw; (try dsimp only at hSw); go_simp; (try with_reducible rfl)); done)); try simp only [Act.put, List.setIfInBounds_toArray, List.set_cons_zero, List.set_cons_succ]))
              refine seq_done ?_
              clear hHeld
              go_wp2
              go_meet
              exact ⟨rfl, rfl⟩
            | some o =>
              dsimp only [Option.isSome_some] at hkc
              have ha := HA.out x o hkx
              have hn : nwm (x2, x3) o = true := by
                have := HT.out
                unfold takes at this
                rw [hkx] at this
                simpa using (Bool.and_eq_true _ _ ▸ this).2
              rw [ha] at hl1 hl2
              obtain ⟨o1, o2⟩ := o
              dsimp only at hl1 hl2
              have CN := Lib.hid (fun w => show Calls Try.prog 11 #[.int .u16 x2, .int .u16 x3, .int .u16 o1, .int .u16 o2] w fun e w' => e = .returned (.bool true) ∧ w = w' from hn ▸ rnewer_ok (x2, x3) (o1, o2) HU.out (HF.out.u _ _ hkx) w)
              clear ha hn hkx
              refine wp_region_seq [(0, true), (1, true), (2, true), (3, true), (4, true), (5, true), (6, true), (7, true), (8, true), (9, true), (10, true), (11, true), (12, true), (13, true), (14, true), (15, true), (16, true), (17, true), (18, true), (19, true), (20, true), (21, false), (22, true), (23, true)] (fun w' => w'.cell? ⟨bx, 1, none⟩ = some (.int .i64 x) ∧ w'.cell? ⟨bx, 2, none⟩ = some (.int .u16 x2) ∧ w'.cell? ⟨bx, 3, none⟩ = some (.int .u16 x3) ∧ w'.cell? ⟨kb, x, none⟩ = some (.bool true) ∧ w'.cell? ⟨lb, x * 2, none⟩ = some (.int .u16 o1) ∧ w'.cell? ⟨lb, x * 2 + 1, none⟩ = some (.int .u16 o2)) (by kernel_rfl) (by kernel_rfl) ⟨b1, b2, b3, hkc, hl1, hl2⟩ (fun hHeld1 => ?_)
              simp only [List.map_cons, List.map_nil, List.getElem?_toArray, List.getElem?_cons_zero, List.getElem?_cons_succ]
              repeat (first | (refine seq_skip (by rfl) ?_; try simp only [Act.put, List.setIfInBounds_toArray, List.set_cons_zero, List.set_cons_succ]) | (refine seq_not (by rfl) (by assumption) ?_; try simp only [Act.put, List.setIfInBounds_toArray, List.set_cons_zero, List.set_cons_succ]) | (refine seq_take (v := ?_) (by rfl) ?_ ?_; rotate_left; (focus ((intro w hSw; (try dsimp only at hSw); go_simp; (try with_reducible rfl)); done)); try simp only [Act.put, List.setIfInBounds_toArray, List.set_cons_zero, List.set_cons_succ]))
              refine seq_do (fun K hK => ?_)
              go_simp
              go_at_call 11
              (with_reducible refine Calls.mono (CN.out _) ?_)
              rintro e w' ⟨rfl, rfl⟩
              dsimp only
              refine hK.out _ _ ⟨b1, b2, b3, hkc, hl1, hl2⟩ (fun hHeld2 => ?_)
              clear hK K
              repeat (first | (refine seq_skip (by rfl) ?_; try simp only [Act.put, List.setIfInBounds_toArray, List.set_cons_zero, List.set_cons_succ]) | (refine seq_not (by rfl) (by assumption) ?_; try simp only [Act.put, List.setIfInBounds_toArray, List.set_cons_zero, List.set_cons_succ]) | (refine seq_take (v := ?_) (by rfl) ?_ ?_; rotate_left; (focus ((intro w hSw; (try dsimp only at hSw); go_simp; (try with_reducible rfl)); done)); try simp only [Act.put, List.setIfInBounds_toArray, List.set_cons_zero, List.set_cons_succ]))
              refine seq_done ?_
              clear hHeld1 hHeld2
              go_wp2
              go_meet
              exact ⟨rfl, rfl⟩
          case rest =>
            obtain ⟨rfl, rfl⟩ := hcut
            clear hl1 hl2 b1 b2 b3
            have HO6 := Lib.hid HO5.out.drew
            have HX6 := Lib.hid HX5.out.drew
            have HK6 := Lib.hid (show Kn _ _ _ from Cs.drew HK5.out)
            have HL6 := Lib.hid (show La _ _ _ from Cs.drew HL5.out)
            have HB6 := Lib.hid (below_drew HB5.out)
            clear HO5 HX5 HK5 HL5 HB5
            generalize w5.drew = w6 at HO6 HX6 HK6 HL6 HB6 hkc ⊢
            have b1 := HX6.out.cell 1
            have fz := Cs.frozen HK6.out x
            go_upto_region 23 with fail
            clear b1 hkc fz
            have HK7 := Lib.hid (HK6.out.put x (x2, x3))
            have HO7 := Lib.hid (show Ob (w6.setCell ⟨kb, x, none⟩ (.bool true)) p bm (n + 1) a0 a1_0 a1_1 s2 (put f x (x2, x3)) from ⟨HO6.out.nd.far (p := ⟨kb, x, none⟩) (by show p ≠ kb; omega) _, HO6.out.mp.far (by omega) _⟩)
            have HL7 := Lib.hid (show La (w6.setCell ⟨kb, x, none⟩ (.bool true)) lb la from Cs.far HL6.out (by omega))
            have HX7 := Lib.hid (HX6.out.far (p := ⟨kb, x, none⟩) (by show bx ≠ kb; omega) (.bool true))
            have HB7 := Lib.hid (HB6.out.setCell (p := ⟨kb, x, none⟩) hkW (.bool true))
            clear HO6 HX6 HK6 HL6 HB6
            generalize w6.setCell ⟨kb, x, none⟩ (.bool true) = w7 at HO7 HX7 HK7 HL7 HB7 ⊢
            have b1 := HX7.out.cell 1
            have b2 := HX7.out.cell 2
            have b3 := HX7.out.cell 3
            have l1 := HL7.out.fst hx
            have l2 := HL7.out.snd hx
            have g1 := Cs.frozen HL7.out (x * 2)
            have g2 := Cs.frozen HL7.out (x * 2 + 1)
            go_wp2
            go_roundw
            case rel => 
              have HL8 := HL7.out.put x (x2, x3)
              refine ⟨k + 1, bm, n + 1, s2, _, (fun i => if i = x then (x2, x3) else la i), by omega, by omega, by go_num, hbm, HS2.out, HF2.out, ?_, ⟨(HO7.out.nd.far (p := ⟨lb, x * 2, none⟩) (by show p ≠ lb; omega) _).far (p := ⟨lb, x * 2 + 1, none⟩) (by show p ≠ lb; omega) _, (HO7.out.mp.far (by omega) _).far (by omega) _⟩, Cs.far (Cs.far HK7.out (by omega)) (by omega), HL8, (HB7.out.setCell (p := ⟨lb, x * 2, none⟩) hW2 _).setCell (p := ⟨lb, x * 2 + 1, none⟩) hW2 _⟩
              intro i o hi
              unfold Mp.put at hi
              dsimp only at hi ⊢
              by_cases e : i = x
              · rw [if_pos (by omega)] at hi
                rw [if_pos e]
                injection hi
              · rw [if_neg (by omega)] at hi
                rw [if_neg e]
                exact HA.out i o hi
            case measure => simp [intOf]; omega
      by_cases k1 : x0 = 1
      · as_aux_lemma =>
        subst k1
        have ht : takes a0 s f x1 (x2, x3) = true ∨ takes a0 s f x1 (x2, x3) = false := by cases takes a0 s f x1 (x2, x3) <;> simp
        rcases ht with ht | ht
        rotate_left
        · have HE := Lib.hid (hear_not ht)
          clear ht
          go_wp2_with fail
          refine (ob_hear_is HO2.out HN.out HW.out HE.out).mono ?_
          rintro e w5 ⟨rfl, ho, hk⟩
          have HO5 := Lib.hid ho
          have HK5 := Lib.hid (show Kn _ _ _ from Cs.kp HK2.out hk (by omega))
          have HL5 := Lib.hid (show La _ _ _ from Cs.kp HL2.out hk (by omega))
          have HB5 := Lib.hid (below_kp HB2.out HB2.out.size hk (fun k hk => by omega))
          clear ho hk HO2 HK2 HL2 HX2 HB2 b1 b2 b3
          go_wp2
          go_roundw
          case rel => exact ⟨k + 1, bm, n + 1, s, f, la, by omega, by omega, by go_num, hbm, HS.out, HF.out, HA.out, HO5.out, HK5.out, HL5.out, HB5.out⟩
          case measure => simp [intOf]; omega
        · have hl := takes_lt ht
          have hm1 := RU.out.m1
          obtain ⟨x, rfl⟩ : ∃ x : Nat, x1 = x := ⟨x1.toNat, by omega⟩
          have hx : x < 64 := by omega
          have n0 : ¬ ((x : Int) < 0) := by omega
          have n1 : (x : Int) < 64 := by omega
          have n2 : (x : Int) ≤ 63 := by omega
          have n3 : decide ((63 : Int) < x) = false := by simp; omega
          have hst := HS.out.hear (f := f) (r := (x : Int)) (m := (x2, x3)) RU.out
          have hft := HF.out.hear (r := (x : Int)) HU.out
          obtain ⟨v, s2, he, hv, hr⟩ := hear_yes ht
          rw [he] at hst hft
          have HE := Lib.hid he
          have HS2 := Lib.hid (show StOk a0 a1_0 a1_1 s2 from hst)
          have HF2 := Lib.hid (show FOk a0 s2 (put f x (x2, x3)) from hft)
          have HT := Lib.hid ht
          have v1 : (v == 0) = false := by rcases hv with rfl | rfl <;> rfl
          have v2 : (v != 0) = true := by rcases hv with rfl | rfl <;> rfl
          clear ht he hst hft hr hv hl hm1
          go_upto_region 18 with (go_at_call 10; (with_reducible refine Calls.mono (ob_hear_is HO2.out HN.out HW.out HE.out) ?_); rintro e w5 ⟨rfl, ho, hk⟩; have HO5 := Lib.hid ho; have HX5 := Lib.hid (blk_kp HX2.out hk (by omega)); have HK5 := Lib.hid (show Kn _ _ _ from Cs.kp HK2.out hk (by omega)); have HL5 := Lib.hid (show La _ _ _ from Cs.kp HL2.out hk (by omega)); have HB5 := Lib.hid (below_kp HB2.out HB2.out.size hk (fun k hk => by omega)); clear ho hk HO2 HK2 HL2 HX2 HB2 b1 b2 b3)
          have b1 := HX5.out.cell 1
          go_upto_region 20 with fail
          clear b1
          have hkc : (w5.drew).cell? ⟨kb, x, none⟩ = some (.bool (f (x : Int)).isSome) := (show Kn _ _ _ from Cs.drew HK5.out).cell hx
          have hl1 := (show La _ _ _ from Cs.drew HL5.out).fst hx
          have hl2 := (show La _ _ _ from Cs.drew HL5.out).snd hx
          have hxc := HX5.out.drew
          have b1 := hxc.cell 1
          have b2 := hxc.cell 2
          have b3 := hxc.cell 3
          clear hxc
          go_cut [78] (fun c wx => c = .bool false ∧ wx = w5.drew)
          case first =>
            obtain ⟨kx, hkx⟩ : ∃ kx, f (x : Int) = kx := ⟨_, rfl⟩
            rw [hkx] at hkc
            cases kx with
            | none =>
              dsimp only [Option.isSome_none] at hkc
              refine wp_region_seq [(0, true), (1, true), (2, true), (3, true), (4, true), (5, true), (6, true), (7, true), (8, true), (9, true), (10, true), (11, true), (12, true), (13, true), (14, true), (15, true), (16, true), (17, true), (18, true), (19, true), (20, true), (21, false), (22, true), (23, true)] (fun w' => w'.cell? ⟨bx, 1, none⟩ = some (.int .i64 x) ∧ w'.cell? ⟨kb, x, none⟩ = some (.bool false)) (by kernel_rfl) (by kernel_rfl) ⟨b1, hkc⟩ (fun hHeld => ?_)
              simp only [List.map_cons, List.map_nil, List.getElem?_toArray, List.getElem?_cons_zero, List.getElem?_cons_succ]
              repeat (first | (refine seq_skip (by rfl) ?_; try simp only [Act.put, List.setIfInBounds_toArray, List.set_cons_zero, List.set_cons_succ]) | (refine seq_not (by rfl) (by assumption) ?_; try simp only [Act.put, List.setIfInBounds_toArray, List.set_cons_zero, List.set_cons_succ]) | (refine seq_take (v := ?_) (by rfl) ?_ ?_; rotate_left; (focus ((intro w hSw; (try dsimp only at hSw); go_simp; (try with_reducible rfl)); done)); try simp only [Act.put, List.setIfInBounds_toArray, List.set_cons_zero, List.set_cons_succ]))
              refine seq_done ?_
              clear hHeld
              go_wp2
              go_meet
              exact ⟨rfl, rfl⟩
            | some o =>
              dsimp only [Option.isSome_some] at hkc
              have ha := HA.out x o hkx
              have hn : nwm (x2, x3) o = true := by
                have := HT.out
                unfold takes at this
                rw [hkx] at this
                simpa using (Bool.and_eq_true _ _ ▸ this).2
              rw [ha] at hl1 hl2
              obtain ⟨o1, o2⟩ := o
              dsimp only at hl1 hl2
              have CN := Lib.hid (fun w => show Calls Try.prog 11 #[.int .u16 x2, .int .u16 x3, .int .u16 o1, .int .u16 o2] w fun e w' => e = .returned (.bool true) ∧ w = w' from hn ▸ rnewer_ok (x2, x3) (o1, o2) HU.out (HF.out.u _ _ hkx) w)
              clear ha hn hkx
              refine wp_region_seq [(0, true), (1, true), (2, true), (3, true), (4, true), (5, true), (6, true), (7, true), (8, true), (9, true), (10, true), (11, true), (12, true), (13, true), (14, true), (15, true), (16, true), (17, true), (18, true), (19, true), (20, true), (21, false), (22, true), (23, true)] (fun w' => w'.cell? ⟨bx, 1, none⟩ = some (.int .i64 x) ∧ w'.cell? ⟨bx, 2, none⟩ = some (.int .u16 x2) ∧ w'.cell? ⟨bx, 3, none⟩ = some (.int .u16 x3) ∧ w'.cell? ⟨kb, x, none⟩ = some (.bool true) ∧ w'.cell? ⟨lb, x * 2, none⟩ = some (.int .u16 o1) ∧ w'.cell? ⟨lb, x * 2 + 1, none⟩ = some (.int .u16 o2)) (by kernel_rfl) (by kernel_rfl) ⟨b1, b2, b3, hkc, hl1, hl2⟩ (fun hHeld1 => ?_)
              simp only [List.map_cons, List.map_nil, List.getElem?_toArray, List.getElem?_cons_zero, List.getElem?_cons_succ]
              repeat (first | (refine seq_skip (by rfl) ?_; try simp only [Act.put, List.setIfInBounds_toArray, List.set_cons_zero, List.set_cons_succ]) | (refine seq_not (by rfl) (by assumption) ?_; try simp only [Act.put, List.setIfInBounds_toArray, List.set_cons_zero, List.set_cons_succ]) | (refine seq_take (v := ?_) (by rfl) ?_ ?_; rotate_left; (focus ((intro w hSw; (try dsimp only at hSw); go_simp; (try with_reducible rfl)); done)); try simp only [Act.put, List.setIfInBounds_toArray, List.set_cons_zero, List.set_cons_succ]))
              refine seq_do (fun K hK => ?_)
              go_simp
              go_at_call 11
              (with_reducible refine Calls.mono (CN.out _) ?_)
              rintro e w' ⟨rfl, rfl⟩
              dsimp only
              refine hK.out _ _ ⟨b1, b2, b3, hkc, hl1, hl2⟩ (fun hHeld2 => ?_)
              clear hK K
              repeat (first | (refine seq_skip (by rfl) ?_; try simp only [Act.put, List.setIfInBounds_toArray, List.set_cons_zero, List.set_cons_succ]) | (refine seq_not (by rfl) (by assumption) ?_; try simp only [Act.put, List.setIfInBounds_toArray, List.set_cons_zero, List.set_cons_succ]) | (refine seq_take (v := ?_) (by rfl) ?_ ?_; rotate_left; (focus ((intro w hSw; (try dsimp only at hSw); go_simp; (try with_reducible rfl)); done)); try simp only [Act.put, List.setIfInBounds_toArray, List.set_cons_zero, List.set_cons_succ]))
              refine seq_done ?_
              clear hHeld1 hHeld2
              go_wp2
              go_meet
              exact ⟨rfl, rfl⟩
          case rest =>
            obtain ⟨rfl, rfl⟩ := hcut
            clear hl1 hl2 b1 b2 b3
            have HO6 := Lib.hid HO5.out.drew
            have HX6 := Lib.hid HX5.out.drew
            have HK6 := Lib.hid (show Kn _ _ _ from Cs.drew HK5.out)
            have HL6 := Lib.hid (show La _ _ _ from Cs.drew HL5.out)
            have HB6 := Lib.hid (below_drew HB5.out)
            clear HO5 HX5 HK5 HL5 HB5
            generalize w5.drew = w6 at HO6 HX6 HK6 HL6 HB6 hkc ⊢
            have b1 := HX6.out.cell 1
            have fz := Cs.frozen HK6.out x
            go_upto_region 23 with fail
            clear b1 hkc fz
            have HK7 := Lib.hid (HK6.out.put x (x2, x3))
            have HO7 := Lib.hid (show Ob (w6.setCell ⟨kb, x, none⟩ (.bool true)) p bm (n + 1) a0 a1_0 a1_1 s2 (put f x (x2, x3)) from ⟨HO6.out.nd.far (p := ⟨kb, x, none⟩) (by show p ≠ kb; omega) _, HO6.out.mp.far (by omega) _⟩)
            have HL7 := Lib.hid (show La (w6.setCell ⟨kb, x, none⟩ (.bool true)) lb la from Cs.far HL6.out (by omega))
            have HX7 := Lib.hid (HX6.out.far (p := ⟨kb, x, none⟩) (by show bx ≠ kb; omega) (.bool true))
            have HB7 := Lib.hid (HB6.out.setCell (p := ⟨kb, x, none⟩) hkW (.bool true))
            clear HO6 HX6 HK6 HL6 HB6
            generalize w6.setCell ⟨kb, x, none⟩ (.bool true) = w7 at HO7 HX7 HK7 HL7 HB7 ⊢
            have b1 := HX7.out.cell 1
            have b2 := HX7.out.cell 2
            have b3 := HX7.out.cell 3
            have l1 := HL7.out.fst hx
            have l2 := HL7.out.snd hx
            have g1 := Cs.frozen HL7.out (x * 2)
            have g2 := Cs.frozen HL7.out (x * 2 + 1)
            go_wp2
            go_roundw
            case rel => 
              have HL8 := HL7.out.put x (x2, x3)
              refine ⟨k + 1, bm, n + 1, s2, _, (fun i => if i = x then (x2, x3) else la i), by omega, by omega, by go_num, hbm, HS2.out, HF2.out, ?_, ⟨(HO7.out.nd.far (p := ⟨lb, x * 2, none⟩) (by show p ≠ lb; omega) _).far (p := ⟨lb, x * 2 + 1, none⟩) (by show p ≠ lb; omega) _, (HO7.out.mp.far (by omega) _).far (by omega) _⟩, Cs.far (Cs.far HK7.out (by omega)) (by omega), HL8, (HB7.out.setCell (p := ⟨lb, x * 2, none⟩) hW2 _).setCell (p := ⟨lb, x * 2 + 1, none⟩) hW2 _⟩
              intro i o hi
              unfold Mp.put at hi
              dsimp only at hi ⊢
              by_cases e : i = x
              · rw [if_pos (by omega)] at hi
                rw [if_pos e]
                injection hi
              · rw [if_neg (by omega)] at hi
                rw [if_neg e]
                exact HA.out i o hi
            case measure => simp [intOf]; omega
      by_cases k2 : x0 = 2
      · as_aux_lemma =>
        subst k2
        have ht : takes a0 s f x1 (x2, x3) = true ∨ takes a0 s f x1 (x2, x3) = false := by cases takes a0 s f x1 (x2, x3) <;> simp
        rcases ht with ht | ht
        rotate_left
        · have HE := Lib.hid (hear_not ht)
          clear ht
          go_wp2_with fail
          refine (ob_hear_is HO2.out HN.out HW.out HE.out).mono ?_
          rintro e w5 ⟨rfl, ho, hk⟩
          have HO5 := Lib.hid ho
          have HK5 := Lib.hid (show Kn _ _ _ from Cs.kp HK2.out hk (by omega))
          have HL5 := Lib.hid (show La _ _ _ from Cs.kp HL2.out hk (by omega))
          have HB5 := Lib.hid (below_kp HB2.out HB2.out.size hk (fun k hk => by omega))
          clear ho hk HO2 HK2 HL2 HX2 HB2 b1 b2 b3
          go_wp2
          go_roundw
          case rel => exact ⟨k + 1, bm, n + 1, s, f, la, by omega, by omega, by go_num, hbm, HS.out, HF.out, HA.out, HO5.out, HK5.out, HL5.out, HB5.out⟩
          case measure => simp [intOf]; omega
        · have hl := takes_lt ht
          have hm1 := RU.out.m1
          obtain ⟨x, rfl⟩ : ∃ x : Nat, x1 = x := ⟨x1.toNat, by omega⟩
          have hx : x < 64 := by omega
          have n0 : ¬ ((x : Int) < 0) := by omega
          have n1 : (x : Int) < 64 := by omega
          have n2 : (x : Int) ≤ 63 := by omega
          have n3 : decide ((63 : Int) < x) = false := by simp; omega
          have hst := HS.out.hear (f := f) (r := (x : Int)) (m := (x2, x3)) RU.out
          have hft := HF.out.hear (r := (x : Int)) HU.out
          obtain ⟨v, s2, he, hv, hr⟩ := hear_yes ht
          rw [he] at hst hft
          have HE := Lib.hid he
          have HS2 := Lib.hid (show StOk a0 a1_0 a1_1 s2 from hst)
          have HF2 := Lib.hid (show FOk a0 s2 (put f x (x2, x3)) from hft)
          have HT := Lib.hid ht
          have v1 : (v == 0) = false := by rcases hv with rfl | rfl <;> rfl
          have v2 : (v != 0) = true := by rcases hv with rfl | rfl <;> rfl
          clear ht he hst hft hr hv hl hm1
          go_upto_region 18 with (go_at_call 10; (with_reducible refine Calls.mono (ob_hear_is HO2.out HN.out HW.out HE.out) ?_); rintro e w5 ⟨rfl, ho, hk⟩; have HO5 := Lib.hid ho; have HX5 := Lib.hid (blk_kp HX2.out hk (by omega)); have HK5 := Lib.hid (show Kn _ _ _ from Cs.kp HK2.out hk (by omega)); have HL5 := Lib.hid (show La _ _ _ from Cs.kp HL2.out hk (by omega)); have HB5 := Lib.hid (below_kp HB2.out HB2.out.size hk (fun k hk => by omega)); clear ho hk HO2 HK2 HL2 HX2 HB2 b1 b2 b3)
          have b1 := HX5.out.cell 1
          go_upto_region 20 with fail
          clear b1
          have hkc : (w5.drew).cell? ⟨kb, x, none⟩ = some (.bool (f (x : Int)).isSome) := (show Kn _ _ _ from Cs.drew HK5.out).cell hx
          have hl1 := (show La _ _ _ from Cs.drew HL5.out).fst hx
          have hl2 := (show La _ _ _ from Cs.drew HL5.out).snd hx
          have hxc := HX5.out.drew
          have b1 := hxc.cell 1
          have b2 := hxc.cell 2
          have b3 := hxc.cell 3
          clear hxc
          go_cut [78] (fun c wx => c = .bool false ∧ wx = w5.drew)
          case first =>
            obtain ⟨kx, hkx⟩ : ∃ kx, f (x : Int) = kx := ⟨_, rfl⟩
            rw [hkx] at hkc
            cases kx with
            | none =>
              dsimp only [Option.isSome_none] at hkc
              refine wp_region_seq [(0, true), (1, true), (2, true), (3, true), (4, true), (5, true), (6, true), (7, true), (8, true), (9, true), (10, true), (11, true), (12, true), (13, true), (14, true), (15, true), (16, true), (17, true), (18, true), (19, true), (20, true), (21, false), (22, true), (23, true)] (fun w' => w'.cell? ⟨bx, 1, none⟩ = some (.int .i64 x) ∧ w'.cell? ⟨kb, x, none⟩ = some (.bool false)) (by kernel_rfl) (by kernel_rfl) ⟨b1, hkc⟩ (fun hHeld => ?_)
              simp only [List.map_cons, List.map_nil, List.getElem?_toArray, List.getElem?_cons_zero, List.getElem?_cons_succ]
              repeat (first | (refine seq_skip (by rfl) ?_; try simp only [Act.put, List.setIfInBounds_toArray, List.set_cons_zero, List.set_cons_succ]) | (refine seq_not (by rfl) (by assumption) ?_; try simp only [Act.put, List.setIfInBounds_toArray, List.set_cons_zero, List.set_cons_succ]) | (refine seq_take (v := ?_) (by rfl) ?_ ?_; rotate_left; (focus ((intro w hSw; (try dsimp only at hSw); go_simp; (try with_reducible rfl)); done)); try simp only [Act.put, List.setIfInBounds_toArray, List.set_cons_zero, List.set_cons_succ]))
              refine seq_done ?_
              clear hHeld
              go_wp2
              go_meet
              exact ⟨rfl, rfl⟩
            | some o =>
              dsimp only [Option.isSome_some] at hkc
              have ha := HA.out x o hkx
              have hn : nwm (x2, x3) o = true := by
                have := HT.out
                unfold takes at this
                rw [hkx] at this
                simpa using (Bool.and_eq_true _ _ ▸ this).2
              rw [ha] at hl1 hl2
              obtain ⟨o1, o2⟩ := o
              dsimp only at hl1 hl2
              have CN := Lib.hid (fun w => show Calls Try.prog 11 #[.int .u16 x2, .int .u16 x3, .int .u16 o1, .int .u16 o2] w fun e w' => e = .returned (.bool true) ∧ w = w' from hn ▸ rnewer_ok (x2, x3) (o1, o2) HU.out (HF.out.u _ _ hkx) w)
              clear ha hn hkx
              refine wp_region_seq [(0, true), (1, true), (2, true), (3, true), (4, true), (5, true), (6, true), (7, true), (8, true), (9, true), (10, true), (11, true), (12, true), (13, true), (14, true), (15, true), (16, true), (17, true), (18, true), (19, true), (20, true), (21, false), (22, true), (23, true)] (fun w' => w'.cell? ⟨bx, 1, none⟩ = some (.int .i64 x) ∧ w'.cell? ⟨bx, 2, none⟩ = some (.int .u16 x2) ∧ w'.cell? ⟨bx, 3, none⟩ = some (.int .u16 x3) ∧ w'.cell? ⟨kb, x, none⟩ = some (.bool true) ∧ w'.cell? ⟨lb, x * 2, none⟩ = some (.int .u16 o1) ∧ w'.cell? ⟨lb, x * 2 + 1, none⟩ = some (.int .u16 o2)) (by kernel_rfl) (by kernel_rfl) ⟨b1, b2, b3, hkc, hl1, hl2⟩ (fun hHeld1 => ?_)
              simp only [List.map_cons, List.map_nil, List.getElem?_toArray, List.getElem?_cons_zero, List.getElem?_cons_succ]
              repeat (first | (refine seq_skip (by rfl) ?_; try simp only [Act.put, List.setIfInBounds_toArray, List.set_cons_zero, List.set_cons_succ]) | (refine seq_not (by rfl) (by assumption) ?_; try simp only [Act.put, List.setIfInBounds_toArray, List.set_cons_zero, List.set_cons_succ]) | (refine seq_take (v := ?_) (by rfl) ?_ ?_; rotate_left; (focus ((intro w hSw; (try dsimp only at hSw); go_simp; (try with_reducible rfl)); done)); try simp only [Act.put, List.setIfInBounds_toArray, List.set_cons_zero, List.set_cons_succ]))
              refine seq_do (fun K hK => ?_)
              go_simp
              go_at_call 11
              (with_reducible refine Calls.mono (CN.out _) ?_)
              rintro e w' ⟨rfl, rfl⟩
              dsimp only
              refine hK.out _ _ ⟨b1, b2, b3, hkc, hl1, hl2⟩ (fun hHeld2 => ?_)
              clear hK K
              repeat (first | (refine seq_skip (by rfl) ?_; try simp only [Act.put, List.setIfInBounds_toArray, List.set_cons_zero, List.set_cons_succ]) | (refine seq_not (by rfl) (by assumption) ?_; try simp only [Act.put, List.setIfInBounds_toArray, List.set_cons_zero, List.set_cons_succ]) | (refine seq_take (v := ?_) (by rfl) ?_ ?_; rotate_left; (focus ((intro w hSw; (try dsimp only at hSw); go_simp; (try with_reducible rfl)); done)); try simp only [Act.put, List.setIfInBounds_toArray, List.set_cons_zero, List.set_cons_succ]))
              refine seq_done ?_
              clear hHeld1 hHeld2
              go_wp2
              go_meet
              exact ⟨rfl, rfl⟩
          case rest =>
            obtain ⟨rfl, rfl⟩ := hcut
            clear hl1 hl2 b1 b2 b3
            have HO6 := Lib.hid HO5.out.drew
            have HX6 := Lib.hid HX5.out.drew
            have HK6 := Lib.hid (show Kn _ _ _ from Cs.drew HK5.out)
            have HL6 := Lib.hid (show La _ _ _ from Cs.drew HL5.out)
            have HB6 := Lib.hid (below_drew HB5.out)
            clear HO5 HX5 HK5 HL5 HB5
            generalize w5.drew = w6 at HO6 HX6 HK6 HL6 HB6 hkc ⊢
            have b1 := HX6.out.cell 1
            have fz := Cs.frozen HK6.out x
            go_upto_region 23 with fail
            clear b1 hkc fz
            have HK7 := Lib.hid (HK6.out.put x (x2, x3))
            have HO7 := Lib.hid (show Ob (w6.setCell ⟨kb, x, none⟩ (.bool true)) p bm (n + 1) a0 a1_0 a1_1 s2 (put f x (x2, x3)) from ⟨HO6.out.nd.far (p := ⟨kb, x, none⟩) (by show p ≠ kb; omega) _, HO6.out.mp.far (by omega) _⟩)
            have HL7 := Lib.hid (show La (w6.setCell ⟨kb, x, none⟩ (.bool true)) lb la from Cs.far HL6.out (by omega))
            have HX7 := Lib.hid (HX6.out.far (p := ⟨kb, x, none⟩) (by show bx ≠ kb; omega) (.bool true))
            have HB7 := Lib.hid (HB6.out.setCell (p := ⟨kb, x, none⟩) hkW (.bool true))
            clear HO6 HX6 HK6 HL6 HB6
            generalize w6.setCell ⟨kb, x, none⟩ (.bool true) = w7 at HO7 HX7 HK7 HL7 HB7 ⊢
            have b1 := HX7.out.cell 1
            have b2 := HX7.out.cell 2
            have b3 := HX7.out.cell 3
            have l1 := HL7.out.fst hx
            have l2 := HL7.out.snd hx
            have g1 := Cs.frozen HL7.out (x * 2)
            have g2 := Cs.frozen HL7.out (x * 2 + 1)
            go_wp2
            go_roundw
            case rel => 
              have HL8 := HL7.out.put x (x2, x3)
              refine ⟨k + 1, bm, n + 1, s2, _, (fun i => if i = x then (x2, x3) else la i), by omega, by omega, by go_num, hbm, HS2.out, HF2.out, ?_, ⟨(HO7.out.nd.far (p := ⟨lb, x * 2, none⟩) (by show p ≠ lb; omega) _).far (p := ⟨lb, x * 2 + 1, none⟩) (by show p ≠ lb; omega) _, (HO7.out.mp.far (by omega) _).far (by omega) _⟩, Cs.far (Cs.far HK7.out (by omega)) (by omega), HL8, (HB7.out.setCell (p := ⟨lb, x * 2, none⟩) hW2 _).setCell (p := ⟨lb, x * 2 + 1, none⟩) hW2 _⟩
              intro i o hi
              unfold Mp.put at hi
              dsimp only at hi ⊢
              by_cases e : i = x
              · rw [if_pos (by omega)] at hi
                rw [if_pos e]
                injection hi
              · rw [if_neg (by omega)] at hi
                rw [if_neg e]
                exact HA.out i o hi
            case measure => simp [intOf]; omega
      by_cases k3 : x0 = 3
      · as_aux_lemma =>
        subst k3
        obtain ⟨v, s2, he⟩ : ∃ v s2, beat a0 a1_0 a1_1 s = (v, s2) := ⟨_, _, rfl⟩
        have hst := HS.out.beat RU.out
        have hft := HF.out.beat (t := a1_0) (g := a1_1)
        rw [he] at hst hft
        have HE := Lib.hid he
        have HS2 := Lib.hid (show StOk a0 a1_0 a1_1 s2 from hst)
        have HF2 := Lib.hid (show FOk a0 s2 f from hft)
        clear he hst hft
        go_wp2_with fail
        refine (ob_beat_is HO2.out RU.out HS.out HE.out).mono ?_
        rintro e w5 ⟨rfl, ho, hk⟩
        have HO5 := Lib.hid ho
        have HK5 := Lib.hid (show Kn _ _ _ from Cs.kp HK2.out hk (by omega))
        have HL5 := Lib.hid (show La _ _ _ from Cs.kp HL2.out hk (by omega))
        have HB5 := Lib.hid (below_kp HB2.out HB2.out.size hk (fun k hk => by omega))
        clear ho hk HO2 HK2 HL2 HX2 HB2 b1 b2 b3
        go_wp2
        go_roundw
        case rel => exact ⟨k + 1, bm, n, s2, f, la, by omega, by omega, by go_num, hbm, HS2.out, HF2.out, HA.out, HO5.out, HK5.out, HL5.out, HB5.out⟩
        case measure => simp [intOf]; omega
      by_cases k4 : x0 = 4
      · as_aux_lemma =>
        subst k4
        obtain ⟨v, s2, he⟩ : ∃ v s2, beat a0 a1_0 a1_1 s = (v, s2) := ⟨_, _, rfl⟩
        have hst := HS.out.beat RU.out
        have hft := HF.out.beat (t := a1_0) (g := a1_1)
        rw [he] at hst hft
        have HE := Lib.hid he
        have HS2 := Lib.hid (show StOk a0 a1_0 a1_1 s2 from hst)
        have HF2 := Lib.hid (show FOk a0 s2 f from hft)
        clear he hst hft
        go_wp2_with fail
        refine (ob_beat_is HO2.out RU.out HS.out HE.out).mono ?_
        rintro e w5 ⟨rfl, ho, hk⟩
        have HO5 := Lib.hid ho
        have HK5 := Lib.hid (show Kn _ _ _ from Cs.kp HK2.out hk (by omega))
        have HL5 := Lib.hid (show La _ _ _ from Cs.kp HL2.out hk (by omega))
        have HB5 := Lib.hid (below_kp HB2.out HB2.out.size hk (fun k hk => by omega))
        clear ho hk HO2 HK2 HL2 HX2 HB2 b1 b2 b3
        go_wp2
        go_roundw
        case rel => exact ⟨k + 1, bm, n, s2, f, la, by omega, by omega, by go_num, hbm, HS2.out, HF2.out, HA.out, HO5.out, HK5.out, HL5.out, HB5.out⟩
        case measure => simp [intOf]; omega
      by_cases k6 : x0 = 6
      · as_aux_lemma =>
        subst k6
        go_wp2_with fail
        refine (ob_boot x2 HO2.out).mono ?_
        rintro e w5 ⟨rfl, bm2, ho, hbm2, hk⟩
        have HO5 := Lib.hid ho
        have HK5 := Lib.hid (show Kn _ _ _ from Cs.kp HK2.out hk (by omega))
        have HL5 := Lib.hid (show La _ _ _ from Cs.kp HL2.out hk (by omega))
        have HB5 := Lib.hid (below_kp HB2.out HB2.out.size hk (fun k hk => by omega))
        have hs2 := HB2.out.size
        have hpb := HO5.out.ne
        have hkb5 := kn_mp HK5.out HO5.out.mp
        clear ho hk HO2 HK2 HL2 HX2 HB2 b1 b2 b3
        obtain ⟨w6, hu, hkn, hk⟩ := HK5.out.zero
        rw [HZ.out] at hu
        have hzs : ZKv.size = 64 := HZ.out ▸ ZK_size
        have HK6 := Lib.hid hkn
        have HO6 := Lib.hid (HO5.out.kp hk (by omega) (by omega))
        have HL6 := Lib.hid (show La _ _ _ from Cs.kp HL5.out hk (by omega))
        have HB6 := Lib.hid (below_kp HB5.out HB5.out.size hk (fun k hk => by omega))
        clear hkn hk
        go_wp2
        go_roundw
        case rel => exact ⟨k + 1, bm2, 0, _, _, la, by omega, by omega, by go_num, by omega, StOk.st0 RU.out x2, FOk.st0 _ _, fun _ _ h => (nomatch h), HO6.out, HK6.out, HL6.out, HB6.out⟩
        case measure => simp [intOf]; omega
      have k0b : (x0 == 0) = false := by simpa using k0
      have k1b : (x0 == 1) = false := by simpa using k1
      have k2b : (x0 == 2) = false := by simpa using k2
      have k3b : (x0 == 3) = false := by simpa using k3
      have k4b : (x0 == 4) = false := by simpa using k4
      have k6b : (x0 == 6) = false := by simpa using k6
      clear k0 k1 k2 k3 k4 k6
      go_wp2
      go_roundw
      case rel => exact ⟨k + 1, bm, n, s, f, la, by omega, by omega, by go_num, hbm, HS.out, HF.out, HA.out, HO2.out, HK2.out, HL2.out, HB2.out⟩
      case measure => simp [intOf]; omega
    · go_wp2
      go_ret
      exact ⟨rfl, HB.out⟩
end Go.Proofs.Ythnnejflgbminaa.ElectOnceW
