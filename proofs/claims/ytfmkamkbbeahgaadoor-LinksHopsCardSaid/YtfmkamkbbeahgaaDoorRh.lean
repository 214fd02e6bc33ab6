/- The reference's Hops answers as the links' own. -/
import Derived.Test.YtfmkamkbbeahgaaDoorRp
import Derived.Test.YtfmkamkbbeahgaaDoorRm
import Derived.Test.YtfmkamkbbeahgaaDoorHo
namespace Go.Proofs.YtfmkamkbbeahgaaDoor.Rh
open Go.RowKit Go.Proofs.YtfmkamkbbeahgaaDoor.Bk Go.Proofs.YtfmkamkbbeahgaaDoor.Rw Go.Proofs.YtfmkamkbbeahgaaDoor.Ow Go.Proofs.YtfmkamkbbeahgaaDoor.Kp Go.Proofs.YtfmkamkbbeahgaaDoor.Bl Go.Proofs.YtfmkamkbbeahgaaDoor.Lk Go.Proofs.YtfmkamkbbeahgaaDoor.Hm Go.Proofs.YtfmkamkbbeahgaaDoor.Ho Go.Proofs.YtfmkamkbbeahgaaDoor.Bm Go.Proofs.YtfmkamkbbeahgaaDoor.Sc Go.Proofs.YtfmkamkbbeahgaaDoor.Rf Go.Proofs.YtfmkamkbbeahgaaDoor.Rm Go.Proofs.YtfmkamkbbeahgaaDoor.Rp
theorem Re.below {w w' : World} {m : Nat} {a : List Nat} {B : Nat} (h : Re w m a) (hb : Below B w w') (hm : m < B) : Re w' m a := let ⟨cs, h1, h2, h3⟩ := h; ⟨cs, h1.below hb hm, h2, h3⟩
set_option maxRecDepth 100000 in
set_option maxHeartbeats 4000000 in
theorem rhops_ok (m : Nat) (a : List Nat) (fr : Int) (s : Nat) (w : World) (h : Re w m a) (h1 : 1 ≤ a.length) (hl : a.length ≤ 64) :
    Calls Tryd.prog 20 #[.pointer (some ⟨m, 0, none⟩), .int .i64 fr, .int .u64 s] w fun e w' => (∃ b, e = .returned (.slice (some ⟨b, 0, none⟩) a.length a.length) ∧ Blk w' b 3 ((hops a fr s).map (Value.int .i64)).toArray ∧ w.heap.size ≤ b) ∧ Below w.heap.size w w' := by
  have HR := Lib.hid h
  have hm := Cs.lt h
  have c0 := h.len
  obtain ⟨N, hN⟩ : ∃ N, a.length = N := ⟨_, rfl⟩
  rw [hN] at c0 h1 hl ⊢
  clear h
  go_enter Tryd.func20, Tryd.ntmps20
  go_wp2_with (with_reducible refine wp_full .i64 3 w w.heap.size 8 rfl 24 _ _ rfl Tryd.underlying24 (by kernel_rfl) .i64 .i64 _ _ N rfl rfl rfl rfl ?_ ?_ (Nat.le_refl _) ?_)
  · omega
  · unfold maxLen; omega
  intro w2 ho hg
  have ho2 := ho
  unfold Oi at ho2
  rw [List.length_replicate] at ho2
  have hb := blk_of_row ho2
  have hbw : Below w.heap.size w w2 := (Below.refl w.heap.size w).grown hg (Nat.le_refl _) (fun k hk => nomatch hk)
  have HB2 := Lib.hid hb.1
  have HW2 := Lib.hid hbw
  clear ho ho2 hg hb hbw c0
  go_wp2
  go_loopw [19] (fun i wr => ∃ k : Nat, k ≤ N ∧ i = .int .i64 k ∧ Blk wr w.heap.size 3 ((List.replicate k (Value.int .i64 (-1)) ++ List.replicate (N - k) (Value.int .i64 0)).toArray) ∧ Below w.heap.size w wr) (fun i _ => N - (intOf i).toNat)
  case atStart => exact ⟨0, Nat.zero_le _, rfl, by simpa using HB2.out, HW2.out⟩
  case round =>
    obtain ⟨k, hk, rfl, hbr, hbw⟩ := hrel
    have HBW := Lib.hid hbw
    have HBR := Lib.hid hbr
    by_cases hlt : k < N
    · have n1 : (k : Int) < (N : Int) := by omega
      have ck : wr.cell? ⟨w.heap.size, k, none⟩ = some (.int .i64 0) := by
        rw [hbr.cell k]
        exact fill_cell _ _ hlt
      have fk := hbr.frozen k
      clear hbr hbw HB2 HW2
      go_wp2
      go_roundw
      case rel =>
        refine ⟨k + 1, by omega, by go_num, ?_, HBW.out.setCell (p := ⟨w.heap.size, k, none⟩) (Nat.le_refl _) _⟩
        have h5 := HBR.out.set_ k (.int .i64 (-1))
        rw [fill_set _ _ hlt] at h5
        exact h5
      case measure => simp [intOf]; omega
    · have hke : k = N := by omega
      subst hke
      rw [Nat.sub_self, List.replicate_zero, List.append_nil] at hbr
      have HBR := Lib.hid hbr
      have HRe := Lib.hid (Re.below HR.out hbw hm)
      have c0 := HRe.out.len
      rw [hN] at c0
      have CI := Lib.hid (in_ok s fr wr)
      have HMI := Lib.hid (show hops a fr s = List.replicate a.length (-1) → Blk wr w.heap.size 3 ((hops a fr s).map (Value.int .i64)).toArray from fun h => by rw [h, List.map_replicate, hN]; exact hbr)
      clear hbr hbw HB2 HW2 HR
      by_cases f0 : fr < 0
      · go_wp2
        go_ret
        exact ⟨⟨w.heap.size, rfl, HMI.out (hops_out (by omega)), Nat.le_refl _⟩, HBW.out⟩
      by_cases f1 : (k : Int) ≤ fr
      · go_wp2
        go_ret
        exact ⟨⟨w.heap.size, rfl, HMI.out (hops_out (by omega)), Nat.le_refl _⟩, HBW.out⟩
      obtain ⟨f, rfl⟩ : ∃ f : Nat, fr = f := ⟨fr.toNat, by omega⟩
      have hfk : f < k := by omega
      rw [inb_nat s f (by omega)] at CI
      have hSf : (s &&& (2 ^ a.length - 1)).testBit f = s.testBit f := by
        rw [Nat.testBit_and, Nat.testBit_two_pow_sub_one, hN]
        simp [hfk]
      cases hsf : s.testBit f with
      | false =>
        rw [hsf] at CI
        have hout := hops_out (a := a) (f := (f : Int)) (s := s) (by rw [Int.toNat_natCast, hSf, hsf]; rintro ⟨_, _, h⟩; cases h)
        clear hsf
        go_wp2_with (go_at_call 11; (with_reducible refine Calls.mono CI.out ?_); rintro e w3 ⟨rfl, rfl⟩)
        go_ret
        exact ⟨⟨w.heap.size, rfl, HMI.out hout, Nat.le_refl _⟩, HBW.out⟩
      | true =>
        rw [hsf] at CI
        rw [hsf] at hSf
        have HSF := Lib.hid hSf
        have n1 : (f : Int) < (k : Int) := by omega
        have ck : wr.cell? ⟨w.heap.size, f, none⟩ = some (.int .i64 (-1)) := by
          rw [HBR.out.cell f]
          simp [hfk]
        have fk := HBR.out.frozen f
        have HQ0 := Lib.hid (Q.first (a := a) (S := s &&& (2 ^ a.length - 1)) (f := f) (by omega))
        have HB3 := Lib.hid (show Blk (wr.setCell ⟨w.heap.size, f, none⟩ (.int .i64 0)) w.heap.size 3 (((List.replicate a.length (-1 : Int)).set f 0).map (Value.int .i64)).toArray by
          rw [List.map_set, List.map_replicate, hN, ← List.setIfInBounds_toArray]
          exact HBR.out.set_ f _)
        have HW3 := Lib.hid (HBW.out.setCell (p := ⟨w.heap.size, f, none⟩) (Nat.le_refl _) (.int .i64 0))
        have HR3 := Lib.hid (Re.below HRe.out ((Below.refl w.heap.size wr).setCell (p := ⟨w.heap.size, f, none⟩) (Nat.le_refl _) (.int .i64 0)) hm)
        clear hsf hSf HMI HBW HRe
        go_wp2_with (go_at_call 11; (with_reducible refine Calls.mono CI.out ?_); rintro e w3 ⟨rfl, rfl⟩)
        have HSL := Lib.hid (show ∀ i, (s &&& (2 ^ a.length - 1)).testBit i = true → i < a.length from fun i hi => by
          rw [Nat.testBit_and, Nat.testBit_two_pow_sub_one, Bool.and_eq_true] at hi
          simpa using hi.2)
        have HSB := Lib.hid (show ∀ i, i < a.length → (s &&& (2 ^ a.length - 1)).testBit i = s.testBit i from fun i hi => by
          rw [Nat.testBit_and, Nat.testBit_two_pow_sub_one]
          simp [hi])
        have HFIN := Lib.hid (show ∀ o, Q a (s &&& (2 ^ a.length - 1)) f a.length o → o = hops a f s from fun o h => h.last (by omega) (by omega) HSF.out)
        generalize (s &&& (2 ^ a.length - 1)) = S at HQ0 HSL HSB HSF HFIN
        go_loopw [9] (fun i wr => ∃ (t : Nat) (o : List Int), t ≤ k ∧ i = .int .i64 t ∧ Q a S f t o ∧ Blk wr w.heap.size 3 (o.map (Value.int .i64)).toArray ∧ Re wr m a ∧ Below w.heap.size w wr) (fun i _ => k - (intOf i).toNat)
        case atStart => exact ⟨0, _, Nat.zero_le _, rfl, HQ0.out, HB3.out, HR3.out, HW3.out⟩
        case round =>
          obtain ⟨t, o, ht, rfl, hQ, hB, hR, hW⟩ := hrel
          have c0 := hR.len
          rw [hN] at c0
          by_cases htk : t < k
          · have n2 : (t : Int) < (k : Int) := by omega
            have HM := Lib.hid hQ.start
            have HB4 := Lib.hid hB
            have HR4 := Lib.hid hR
            have HW4 := Lib.hid hW
            clear hQ hB hR hW HB3 HR3 HW3 HQ0
            go_wp2
            clear c0
            go_loopw [10] (fun i wr => ∃ (x : Nat) (o : List Int), x ≤ k ∧ i = .int .i64 x ∧ M a S f t x 0 o ∧ Blk wr w.heap.size 3 (o.map (Value.int .i64)).toArray ∧ Re wr m a ∧ Below w.heap.size w wr) (fun i _ => k - (intOf i).toNat)
            case atStart => exact ⟨0, _, Nat.zero_le _, rfl, HM.out, HB4.out, HR4.out, HW4.out⟩
            case round =>
              obtain ⟨x, o, hx, rfl, hM, hB, hR, hW⟩ := hrel
              have c0 := hR.len
              rw [hN] at c0
              by_cases hxk : x < k
              · have n3 : (x : Int) < (k : Int) := by omega
                have n3' : (x : Int) < 64 := by omega
                have HM := Lib.hid hM
                have HB5 := Lib.hid hB
                have HR5 := Lib.hid hR
                have HW5 := Lib.hid hW
                clear hM hB hR hW HB4 HR4 HW4
                go_wp2
                clear c0
                go_loopw [11] (fun i wr => ∃ (y : Nat) (o : List Int), y ≤ k ∧ i = .int .i64 y ∧ M a S f t x y o ∧ Blk wr w.heap.size 3 (o.map (Value.int .i64)).toArray ∧ Re wr m a ∧ Below w.heap.size w wr) (fun i _ => k - (intOf i).toNat)
                case atStart => exact ⟨0, _, Nat.zero_le _, rfl, HM.out, HB5.out, HR5.out, HW5.out⟩
                case round =>
                  obtain ⟨y, o, hy, rfl, hM, hB, hR, hW⟩ := hrel
                  have c0 := hR.len
                  rw [hN] at c0
                  by_cases hyk : y < k
                  · have n4 : (y : Int) < (k : Int) := by omega
                    have n4' : (y : Int) < 64 := by omega
                    have hol := hM.len
                    have cx : wr.cell? ⟨w.heap.size, x, none⟩ = some (.int .i64 (o.getD x (-1))) := by
                      rw [hB.cell x]
                      simp [List.getD_eq_getElem?_getD, List.getElem?_eq_getElem (show x < o.length by omega)]
                    have cy : wr.cell? ⟨w.heap.size, y, none⟩ = some (.int .i64 (o.getD y (-1))) := by
                      rw [hB.cell y]
                      simp [List.getD_eq_getElem?_getD, List.getElem?_eq_getElem (show y < o.length by omega)]
                    have fy := hB.frozen y
                    have cb := Re.at_ hR (i := x) (k := y) (by omega) (by omega)
                    have CI := Lib.hid (in_ok s y wr)
                    rw [inb_nat s y (by omega), ← HSB.out y (by omega)] at CI
                    have HSK := Lib.hid (fun h => hM.skip h)
                    have HPU := Lib.hid (fun h1 h2 h3 h4 => hM.put (by omega) (by omega) h1 h2 h3 h4)
                    have HB6 := Lib.hid hB
                    have HR6 := Lib.hid hR
                    have HW6 := Lib.hid hW
                    clear hM hB hR hW HB5 HR5 HW5 HM
                    generalize o.getD x (-1) = ox at cx HSK HPU
                    generalize o.getD y (-1) = oy at cy HSK HPU
                    by_cases e1 : ox = (t : Int)
                    · subst e1
                      have q1 : ((t : Int) == (t : Int)) = true := by simp
                      by_cases e2 : oy < 0
                      · cases e3 : B a x y with
                        | false =>
                          rw [e3] at cb
                          have hn := HSK.out (by rw [e3]; rintro ⟨_, _, h, _⟩; cases h)
                          clear e3 HSK HPU
                          go_wp2
                          go_roundw
                          case rel => exact ⟨y + 1, o, by omega, by go_num, hn, HB6.out, HR6.out, HW6.out⟩
                          case measure => simp [intOf]; omega
                        | true =>
                          rw [e3] at cb
                          cases e4 : S.testBit y with
                          | false =>
                            rw [e4] at CI
                            have hn := HSK.out (by rw [e4]; rintro ⟨_, _, _, h⟩; cases h)
                            clear e3 e4 HSK HPU
                            go_wp2_with (go_at_call 11; (with_reducible refine Calls.mono CI.out ?_); rintro e w8 ⟨rfl, rfl⟩)
                            go_roundw
                            case rel => exact ⟨y + 1, o, by omega, by go_num, hn, HB6.out, HR6.out, HW6.out⟩
                            case measure => simp [intOf]; omega
                          | true =>
                            rw [e4] at CI
                            have hn := HPU.out rfl e2 e3 e4
                            have q4 : IntKind.i64.wrap ((t : Int) + 1) = (t : Int) + 1 := by rw [IntKind.wrap_i64]; omega
                            clear e3 e4 HSK HPU
                            go_wp2_with (go_at_call 11; (with_reducible refine Calls.mono CI.out ?_); rintro e w8 ⟨rfl, rfl⟩)
                            go_roundw
                            case rel =>
                              refine ⟨y + 1, _, by omega, by go_num, hn, ?_, Re.below HR6.out ((Below.refl w.heap.size wr).setCell (p := ⟨w.heap.size, y, none⟩) (Nat.le_refl _) _) hm, HW6.out.setCell (p := ⟨w.heap.size, y, none⟩) (Nat.le_refl _) _⟩
                              rw [List.map_set, ← List.setIfInBounds_toArray]
                              exact HB6.out.set_ y _
                            case measure => simp [intOf]; omega
                      · have hn := HSK.out (by rintro ⟨_, h, _⟩; exact e2 h)
                        clear HSK HPU
                        go_wp2
                        go_roundw
                        case rel => exact ⟨y + 1, o, by omega, by go_num, hn, HB6.out, HR6.out, HW6.out⟩
                        case measure => simp [intOf]; omega
                    · have hn := HSK.out (by rintro ⟨h, _⟩; exact e1 h)
                      have q1 : (ox == (t : Int)) = false := by simpa using e1
                      clear HSK HPU
                      go_wp2
                      go_roundw
                      case rel => exact ⟨y + 1, o, by omega, by go_num, hn, HB6.out, HR6.out, HW6.out⟩
                      case measure => simp [intOf]; omega
                  · have hye : y = a.length := by omega
                    rw [hye] at hM
                    have HM2 := Lib.hid hM.next
                    have HB6 := Lib.hid hB
                    have HR6 := Lib.hid hR
                    have HW6 := Lib.hid hW
                    clear hM hB hR hW HB5 HR5 HW5 HM hye
                    go_wp2
                    go_roundw
                    case rel => exact ⟨x + 1, o, by omega, by go_num, HM2.out, HB6.out, HR6.out, HW6.out⟩
                    case measure => simp [intOf]; omega
              · have hxe : x = a.length := by omega
                rw [hxe] at hM
                have HQ2 := Lib.hid (hM.stop HSL.out HSF.out)
                have HB6 := Lib.hid hB
                have HR6 := Lib.hid hR
                have HW6 := Lib.hid hW
                clear hM hB hR hW HB4 HR4 HW4 HM hxe
                go_wp2
                go_roundw
                case rel => exact ⟨t + 1, o, by omega, by go_num, HQ2.out, HB6.out, HR6.out, HW6.out⟩
                case measure => simp [intOf]; omega
          · have hte : t = a.length := by omega
            rw [hte] at hQ
            have ho := HFIN.out o hQ
            rw [ho] at hB
            have HB6 := Lib.hid hB
            have HW6 := Lib.hid hW
            clear hQ hB hR hW HB3 HR3 HW3 HQ0 hte ho
            go_wp2
            go_ret
            exact ⟨⟨w.heap.size, rfl, HB6.out, Nat.le_refl _⟩, HW6.out⟩
end Go.Proofs.YtfmkamkbbeahgaaDoor.Rh
